/-
  bevyref04.put.
-/
import Derived.Test.YtjlpdbaknhbgdaaBookMark
import Derived.Test.YtjlpdbaknhbgdaaBookHas
import Derived.WalkLawsBesides
import Derived.Outline
import Derived.Handy
import Derived.Deep.RegionHeld
set_option linter.unusedSimpArgs false
set_option linter.unusedVariables false
namespace Go.Proofs.Ytjlpdbaknhbgdaa
open Go.RowKit

/-- A rising list with one more, each once. -/
def putN (l : List HsT) (h : HsT) : Nat := (l.takeWhile fun x => ltT x h).length
def putK (l : List HsT) (h : HsT) (k : Nat) : List HsT := l.take (putN l h) ++ h :: ((l.take k).drop (putN l h)).filter fun x => decide (x ≠ h)
def putT (l : List HsT) (h : HsT) : List HsT := putK l h l.length
theorem putN_le (l : List HsT) (h : HsT) : putN l h ≤ l.length := by
  unfold putN
  exact (List.takeWhile_sublist _).length_le
theorem putN_lt (l : List HsT) (h : HsT) (k : Nat) (s : HsT) (hs : l[k]? = some s) (hk : k < putN l h) : ltT s h = true := by
  have h1 : l.takeWhile (fun x => ltT x h) <+: l := List.takeWhile_prefix _
  have e := List.prefix_iff_getElem?.1 h1 k hk
  rw [hs] at e
  have e2 := Option.some.inj e
  have := List.getElem_mem (l := l.takeWhile fun x => ltT x h) hk
  rw [← e2] at this
  exact List.all_takeWhile (p := fun x => ltT x h) (l := l) |> fun e => by simpa using (List.all_eq_true.1 e) s this
theorem HashOwn.sliceM {w : World} {base : Nat} {e : TypeId} {v : Value} {l : List (List UInt8)} (h : HashOwn w base e v l) : ∃ ao m c, v = .slice ao m c := by
  obtain ⟨ao, c, rfl⟩ := h.slice
  exact ⟨_, _, _, rfl⟩
theorem HashOwn.weakR {w : World} {b1 b2 : Nat} {e : TypeId} {v : Value} {l : List (List UInt8)} (h : HashOwn w b1 e v l) (hb : b2 ≤ b1) : HashOwn w b2 e v l :=
  ⟨h.1, h.2.1, h.2.2.imp id fun ⟨g, cap, cur, h1, h2, h3⟩ => ⟨g, cap, cur, h1, Nat.le_trans hb h2, h3⟩⟩
theorem HashOwn.drew {w : World} {base : Nat} {e : TypeId} {v : Value} {l : List (List UInt8)} (h : HashOwn w base e v l) : HashOwn w.drew base e v l := h.below (below_drewN (Below.refl _ _) 1)
theorem putN_ge (l : List HsT) (h : HsT) (s : HsT) (hs : l[putN l h]? = some s) : ltT s h = false := by
  revert hs
  unfold putN
  induction l with
  | nil => intro hs; simp at hs
  | cons x l ih =>
    intro hs
    by_cases hx : ltT x h = true
    · rw [List.takeWhile_cons_of_pos (by simpa using hx), List.length_cons, List.getElem?_cons_succ] at hs
      exact ih hs
    · rw [List.takeWhile_cons_of_neg (by simpa using hx)] at hs
      obtain rfl : x = s := by simpa using hs
      simpa using hx
theorem putK_start (l : List HsT) (h : HsT) : putK l h (putN l h) = l.take (putN l h) ++ [h] := by
  unfold putK
  rw [List.drop_eq_nil_of_le (by rw [List.length_take]; omega)]
  rfl
theorem putK_succ (l : List HsT) (h : HsT) (k : Nat) (s : HsT) (hs : l[k]? = some s) (hk : putN l h ≤ k) : putK l h (k + 1) = putK l h k ++ (if s = h then [] else [s]) := by
  obtain ⟨h1, h2⟩ := List.getElem?_eq_some_iff.1 hs
  unfold putK
  rw [List.take_succ_eq_append_getElem h1, h2, List.drop_append_of_le_length (by rw [List.length_take]; omega), List.filter_append, List.append_assoc, List.cons_append]
  congr 2
  by_cases e : s = h <;> simp [e]
theorem putK_len (l : List HsT) (h : HsT) (k : Nat) : (putK l h k).length ≤ l.length + 1 := by
  unfold putK
  rw [List.length_append, List.length_cons]
  have h1 : (((l.take k).drop (putN l h)).filter fun x => decide (x ≠ h)).length ≤ ((l.take k).drop (putN l h)).length := List.length_filter_le _ _
  rw [List.length_drop, List.length_take] at h1
  rw [List.length_take]
  omega
theorem mem_putT (l : List HsT) (h x : HsT) : x ∈ putT l h ↔ x = h ∨ x ∈ l := by
  unfold putT putK
  rw [List.take_length]
  have e : l = l.take (putN l h) ++ l.drop (putN l h) := (List.take_append_drop _ _).symm
  constructor
  · intro hx
    rcases List.mem_append.1 hx with h1 | h1
    · exact .inr (List.mem_of_mem_take h1)
    · rcases List.mem_cons.1 h1 with h1 | h1
      · exact .inl h1
      · exact .inr (List.mem_of_mem_drop (List.mem_filter.1 h1).1)
  · rintro (rfl | hx)
    · exact List.mem_append_right _ List.mem_cons_self
    · by_cases hxh : x = h
      · subst hxh; exact List.mem_append_right _ List.mem_cons_self
      · rw [e] at hx
        rcases List.mem_append.1 hx with h1 | h1
        · exact List.mem_append_left _ h1
        · exact List.mem_append_right _ (List.mem_cons_of_mem _ (List.mem_filter.2 ⟨h1, by simpa using hxh⟩))
theorem rises_putT {l : List HsT} {h : HsT} (hr : Rises l) (hl : ∀ x ∈ l, x.length = 32) (hh : h.length = 32) : Rises (putT l h) := by
  unfold putT putK
  rw [List.take_length]
  have e : l = l.take (putN l h) ++ l.drop (putN l h) := (List.take_append_drop _ _).symm
  have hr2 : List.Pairwise (fun a b => cmpT a b < 0) (l.take (putN l h) ++ l.drop (putN l h)) := by rw [← e]; exact hr
  obtain ⟨r1, r2, r3⟩ := List.pairwise_append.1 hr2
  have hlow : ∀ x ∈ l.take (putN l h), cmpT x h < 0 := fun x hx => by
    obtain ⟨k, hk⟩ := List.getElem?_of_mem hx
    have hk1 : k < putN l h := by have := (List.getElem?_eq_some_iff.1 hk).1; rw [List.length_take] at this; omega
    rw [List.getElem?_take_of_lt hk1] at hk
    have := putN_lt l h k x hk hk1
    unfold ltT at this
    exact of_decide_eq_true this
  have hhigh : ∀ x ∈ l.drop (putN l h), x ≠ h → cmpT h x < 0 := fun x hx hne => by
    have hx32 := hl x (List.mem_of_mem_drop hx)
    have hge : ¬ cmpT x h < 0 := by
      intro hlt
      -- the first of the rest is not below h; x is that one or above it
      cases hd : l.drop (putN l h) with
      | nil => rw [hd] at hx; cases hx
      | cons y m =>
        have hy : l[putN l h]? = some y := by
          have : (l.drop (putN l h))[0]? = some y := by rw [hd]; rfl
          rwa [List.getElem?_drop, Nat.add_zero] at this
        have hy2 := putN_ge l h y hy
        have hy32 := hl y (List.mem_of_getElem? hy)
        unfold ltT at hy2
        have hy3 : ¬ cmpT y h < 0 := of_decide_eq_false hy2
        rw [hd] at hx r2
        rcases List.mem_cons.1 hx with rfl | hx
        · exact hy3 hlt
        · have h5 := (List.pairwise_cons.1 r2).1 x hx
          exact hy3 (cmpT_trans y x h (by rw [hy32, hx32]) (by rw [hx32, hh]) h5 hlt)
    have h1 := cmpT_swap x h
    have h2 : cmpT x h ≠ 0 := fun e => hne (cmpT_eq x h (by rw [hx32, hh]) e)
    omega
  show List.Pairwise _ _
  refine List.pairwise_append.2 ⟨r1, List.pairwise_cons.2 ⟨fun x hx => ?_, r2.filter _⟩, fun x hx y hy => ?_⟩
  · obtain ⟨h1, h2⟩ := List.mem_filter.1 hx
    exact hhigh x h1 (by simpa using h2)
  · rcases List.mem_cons.1 hy with rfl | hy
    · exact hlow x hx
    · exact r3 x hx y (List.mem_filter.1 hy).1
set_option maxHeartbeats 16000000 in
set_option maxRecDepth 100000 in
theorem putRef_calls (v : Value) (l : List HsT) (h : HsT) (w : World) (hl : HashesAt w v l) (hh : h.length = 32) (hn : l.length ≤ 900000) :
    Calls Try.prog 39 #[v, .agg (h.map bv).toArray] w fun e w' => ∃ v', e = .returned v' ∧ HashOwn w' w.heap.size 25 v' (putT l h) ∧ Below w.heap.size w w' := by
  obtain ⟨ao, c, rfl, hc⟩ := hl.slice
  obtain ⟨n, hne⟩ : ∃ n, n = l.length := ⟨_, rfl⟩
  rw [← hne] at hc hn hl ⊢
  have HL : Hid (∀ w', Below w.heap.size w w' → HashesAt w' (.slice ao n c) l) := fun w' b => hl.below b
  have HN := Lib.hid hne
  have HH := Lib.hid hh
  have H32 := Lib.hid hl.1
  obtain ⟨base, hbase⟩ : ∃ base, base = w.heap.size := ⟨_, rfl⟩
  have HBS : Hid (base = w.heap.size) := hbase
  rw [← hbase] at HL ⊢
  obtain ⟨T, hT⟩ : ∃ T, T = putN l h := ⟨_, rfl⟩
  have HT := Lib.hid hT
  have hTn : T ≤ n := by rw [hT, hne]; exact putN_le l h
  clear hl hne hh hT
  have hB0 := Below.refl base w
  go_enter Try.func39, Try.ntmps39
  go_wp2_with ((with_reducible show wpList _ _ _ (⟨some 3, _, _, _, _, _⟩ :: _) _ _); refine wpList_boxA rfl 25 (.tmp 1) rfl (h.map bv).toArray (by rfl) ?_; intro w1 b1 n1; have hB1 := hB0.trans (b1.mono (Nat.le_trans (Nat.le_of_eq HBS.out) hB0.size)); have hwh : base ≤ w.heap.size := Nat.le_of_eq HBS.out; clear b1 hB0)
  obtain ⟨hb, hhb⟩ : ∃ x, x = w.heap.size := ⟨_, rfl⟩
  rw [← hhb] at n1 hwh
  rw [← hhb]
  clear hhb
  have HX := Lib.hid n1
  have HB := Lib.hid hB1
  obtain ⟨ob, hob⟩ : ∃ x, x = hb + 1 := ⟨_, rfl⟩
  have HOB := Lib.hid hob
  have HBO : Hid (base ≤ ob) := by show _ ≤ _; omega
  have HNE : Hid (∀ t, ob ≤ hb → t) := fun t hq => by omega
  clear n1 hB1 hob
  go_loopw [5, 6] (fun v i wr => ∃ (k : Nat), k ≤ T ∧ i = .int .i64 (k : Nat) ∧ Hid (HashOwn wr ob 25 v (l.take k)) ∧ Hid (Blk wr hb (h.map bv).toArray 25) ∧ Hid (Below base w wr)) (fun _ i _ => n - (intOf i).toNat)
  case atStart => exact ⟨0, by omega, rfl, Lib.hid (HashOwn.nil _ _ _), HX, HB⟩
  case round =>
    clear HX HB
    obtain ⟨k, hk, rfl, HO, HX, HB⟩ := hrel
    obtain ⟨dao, dm, dc, rfl⟩ := HO.out.sliceM
    by_cases hlt : k < T
    · obtain ⟨s, hs⟩ : ∃ s, l[k]? = some s := ⟨l[k]'(by rw [← HN.out]; omega), List.getElem?_eq_getElem _⟩
      have HS := Lib.hid (H32.out s (List.mem_of_getElem? hs))
      have HLT : Hid (ltT s h = true) := putN_lt l h k s hs (by rw [← HT.out]; exact hlt)
      obtain ⟨g, o, rfl, hr⟩ := (HL.out _ HB.out).range k s hs
      have HR : Hid (∀ w', Below base w w' → w'.rangeAt g (o + k * 32) (s.map bv)) := fun w' b => (HL.out w' b).range' k s hs
      have HSK := Lib.hid hs
      have hkn : k < n := by omega
      have hX := HX.out
      have hB := HB.out
      clear hr hs HX HB
      go_wp2_with fail
      refine wp_region_held_drew (S := fun x => Blk x (hb) (h.map bv).toArray 25 ∧ Below base w x) (by kernel_rfl) ⟨hX.drew, below_drewN hB 1⟩ (fun hSq1 => ?_)
      have hHq2 := Lib.hid (HO.out.drew)
      refine wpAnyH_take (i := 0) (v := Value.int .i64 (k : Nat)) rfl (by kernel_rfl) (by kernel_rfl) (by kernel_rfl) (fun _ _ _ h => h) (Or.inl ⟨by rfl, fun x hx => by go_simp⟩) hSq1 ?_
      simp only [Act.put, List.getElem_toArray, List.getElem_cons_zero, List.getElem_cons_succ, List.setIfInBounds_toArray, List.set_cons_zero, List.set_cons_succ]
      refine wpAnyH_take (i := 1) (v := Value.slice (some ⟨g, o, none⟩) n c) rfl (by kernel_rfl) (by kernel_rfl) (by kernel_rfl) (fun _ _ _ h => h) (Or.inl ⟨by rfl, fun x hx => by go_simp⟩) hSq1 ?_
      simp only [Act.put, List.getElem_toArray, List.getElem_cons_zero, List.getElem_cons_succ, List.setIfInBounds_toArray, List.set_cons_zero, List.set_cons_succ]
      refine wpAnyH_take (i := 2) (v := Value.int .i64 (n : Nat)) rfl (by kernel_rfl) (by kernel_rfl) (by kernel_rfl) (fun _ _ _ h => h) (Or.inl ⟨by rfl, fun x hx => by go_simp⟩) hSq1 ?_
      simp only [Act.put, List.getElem_toArray, List.getElem_cons_zero, List.getElem_cons_succ, List.setIfInBounds_toArray, List.set_cons_zero, List.set_cons_succ]
      refine wpAnyH_take (i := 3) (v := Value.bool true) rfl (by kernel_rfl) (by kernel_rfl) (by kernel_rfl) (fun _ _ _ h => h) (Or.inl ⟨by rfl, fun x hx => by go_simp⟩) hSq1 ?_
      simp only [Act.put, List.getElem_toArray, List.getElem_cons_zero, List.getElem_cons_succ, List.setIfInBounds_toArray, List.set_cons_zero, List.set_cons_succ]
      refine wpAnyH_take (i := 4) (v := Value.bool true) rfl (by kernel_rfl) (by kernel_rfl) (by kernel_rfl) (fun _ _ _ h => h) (Or.inl ⟨by rfl, fun x hx => by go_simp⟩) hSq1 ?_
      simp only [Act.put, List.getElem_toArray, List.getElem_cons_zero, List.getElem_cons_succ, List.setIfInBounds_toArray, List.set_cons_zero, List.set_cons_succ]
      refine wpAnyH_take (i := 5) (v := Value.slice (some ⟨g, o, none⟩) n c) rfl (by kernel_rfl) (by kernel_rfl) (by kernel_rfl) (fun _ _ _ h => h) (Or.inl ⟨by rfl, fun x hx => by go_simp⟩) hSq1 ?_
      simp only [Act.put, List.getElem_toArray, List.getElem_cons_zero, List.getElem_cons_succ, List.setIfInBounds_toArray, List.set_cons_zero, List.set_cons_succ]
      refine wpAnyH_take (i := 6) (v := Value.int .i64 (k : Nat)) rfl (by kernel_rfl) (by kernel_rfl) (by kernel_rfl) (fun _ _ _ h => h) (Or.inl ⟨by rfl, fun x hx => by go_simp⟩) hSq1 ?_
      simp only [Act.put, List.getElem_toArray, List.getElem_cons_zero, List.getElem_cons_succ, List.setIfInBounds_toArray, List.set_cons_zero, List.set_cons_succ]
      refine wpAnyH_take (i := 7) (v := Value.pointer (some ⟨g, o + k * 32, none⟩)) rfl (by kernel_rfl) (by kernel_rfl) (by kernel_rfl) (fun _ _ _ h => h) (Or.inl ⟨by rfl, fun x hx => by go_simp⟩) hSq1 ?_
      simp only [Act.put, List.getElem_toArray, List.getElem_cons_zero, List.getElem_cons_succ, List.setIfInBounds_toArray, List.set_cons_zero, List.set_cons_succ]
      refine wpAnyH_take (i := 8) rfl (by kernel_rfl) (by kernel_rfl) (by kernel_rfl) (fun _ _ _ h => h) (yieldsIf_load_mid (by rfl) 25 (.tmp 14) rfl (g) (o + k * 32) (by rfl) (s.map bv) _ (fun x hx => HR.out _ hx.2) Try.underlying25 rfl (by rw [List.length_map, HS.out]; exact Try.sizeA32)) hSq1 ?_
      simp only [Act.put, List.getElem_toArray, List.getElem_cons_zero, List.getElem_cons_succ, List.setIfInBounds_toArray, List.set_cons_zero, List.set_cons_succ]
      refine wpAnyH_take (i := 9) rfl (by kernel_rfl) (by kernel_rfl) (by kernel_rfl) (fun _ _ _ h => h) (yieldsIf_load_mid (by rfl) 25 (.tmp 3) rfl (hb) 0 (by rfl) (h.map bv) _ (fun x hx => blk_rangeP hx.1) Try.underlying25 rfl (by rw [List.length_map, HH.out]; exact Try.sizeA32)) hSq1 ?_
      simp only [Act.put, List.getElem_toArray, List.getElem_cons_zero, List.getElem_cons_succ, List.setIfInBounds_toArray, List.set_cons_zero, List.set_cons_succ]
      refine wpAnyH_ready (rs := [10]) (by kernel_rfl) (by simp) ?_
      refine AllReadyH.cons rfl (fun K hK => ?_) AllReadyH.nil
      rw [if_pos (by rfl)]
      go_simp
      have hlo : base ≤ ((World.drew wr)).heap.size := Nat.le_trans (Nat.le_of_eq HBS.out) hSq1.2.size
      go_wp2_with (go_at_call 53; refine (Less_calls s h HS.out HH.out _).mono ?_; rintro e yq3 ⟨rfl, bqq4⟩)
      rw [HLT.out]
      have hHq6 := Lib.hid (hHq2.out.below bqq4)
      refine hK.out _ _ ⟨hSq1.1.below bqq4 hSq1.1.lt, hSq1.2.trans (bqq4.mono (Nat.le_trans (Nat.le_of_eq HBS.out) hSq1.2.size))⟩ (fun hSq5 => ?_)
      clear hK K hSq1 bqq4 hlo
      refine wpAnyH_take (i := 11) (v := Value.bool true) rfl (by kernel_rfl) (by kernel_rfl) (by kernel_rfl) (fun _ _ _ h => h) (Or.inl ⟨by rfl, fun x hx => by go_simp⟩) hSq5 ?_
      simp only [Act.put, List.getElem_toArray, List.getElem_cons_zero, List.getElem_cons_succ, List.setIfInBounds_toArray, List.set_cons_zero, List.set_cons_succ]
      refine wpAnyH_done (by kernel_rfl) ?_ _
      have hX3 := hSq5.1
      have hB3 := hSq5.2
      have HO3 := hHq6
      clear hSq5 hHq6
      go_wp2_with (first | ((with_reducible show wpList _ _ _ (⟨some 23, _, _, _, _, _⟩ :: _) _ _); refine wpList_load_mid rfl 25 (.tmp 22) rfl g (o + k * 32) (by rfl) (s.map bv) _ (HR.out _ hB3) Try.underlying25 rfl (by rw [List.length_map, HS.out]; exact Try.sizeA32) ?_) | ((with_reducible show wpList _ _ _ (⟨some 24, _, _, _, _, _⟩ :: _) _ _); refine wpList_bsH rfl 33 25 (.tmp 23) rfl s HS.out (by rfl) Try.underlying33 Try.infoH2 ?_; intro qq7 wq8 eqq9 szq10 bbq11 hNq12; have ltq13 : hb < yq3.heap.size := hX3.lt; have hCq14 := hX3.below bbq11 hX3.lt; have hCq15 := Lib.hid (HO3.out.below bbq11); have hBq16 := hB3.trans (bbq11.mono (Nat.le_trans (Nat.le_of_eq HBS.out) hB3.size)); clear hX3 HO3 hB3; clear bbq11 eqq9 szq10) | ((with_reducible show wpList _ _ _ (⟨some 25, _, _, _, _, _⟩ :: _) _ _); refine wpList_append_h rfl (.tmp 19) (.tmp 24) 33 rfl ob 25 Try.underlying33 Try.infoH3 _ (l.take k) s HS.out (by rfl) hCq15.out qq7 1 (by rfl) _ hNq12 (by rw [List.length_take]; omega) (by rw [HOB.out]; exact hCq14.lt) ?_; intro vq17 wq18 hOq19 gq20; have hXq21 := hCq14.grown gq20 (fun e => HNE.out _ (hCq15.out.lt _ e.symm).1); have hBq23 := hBq16.grown gq20 (Nat.le_trans (Nat.le_of_eq HBS.out) hBq16.size) (fun q e => Nat.le_trans HBO.out (hCq15.out.lt q e).1); have HOq22 := Lib.hid hOq19; clear hOq19 hNq12 gq20 hCq15 hCq14 hBq16))
      go_roundw
      case rel => exact ⟨k + 1, by omega, by go_num, Lib.hid (by
        obtain ⟨h3, h4⟩ := List.getElem?_eq_some_iff.1 HSK.out
        rw [List.take_succ_eq_append_getElem h3, h4]
        exact HOq22.out), Lib.hid hXq21, Lib.hid hBq23⟩
      case measure => simp [intOf]; omega
    obtain rfl : k = T := by omega
    have HE1 : Hid (l.take k ++ [h] = putK l h k) := by show _ = _; rw [HT.out]; exact (putK_start l h).symm
    have hX := HX.out
    have hB := HB.out
    clear HX HB
    by_cases hkn : k < n
    · obtain ⟨s, hs⟩ : ∃ s, l[k]? = some s := ⟨l[k]'(by rw [← HN.out]; omega), List.getElem?_eq_getElem _⟩
      have HS := Lib.hid (H32.out s (List.mem_of_getElem? hs))
      have HLT : Hid (ltT s h = false) := putN_ge l h s (by rw [← HT.out]; exact hs)
      obtain ⟨g, o, rfl, hr⟩ := (HL.out _ hB).range k s hs
      have HR : Hid (∀ w', Below base w w' → w'.rangeAt g (o + k * 32) (s.map bv)) := fun w' b => (HL.out w' b).range' k s hs
      clear hr hs
      go_wp2_with fail
      refine wp_region_held_drew (S := fun x => Blk x (hb) (h.map bv).toArray 25 ∧ Below base w x) (by kernel_rfl) ⟨hX.drew, below_drewN hB 1⟩ (fun hSq24 => ?_)
      have hHq25 := Lib.hid (HO.out.drew)
      refine wpAnyH_take (i := 0) (v := Value.int .i64 (k : Nat)) rfl (by kernel_rfl) (by kernel_rfl) (by kernel_rfl) (fun _ _ _ h => h) (Or.inl ⟨by rfl, fun x hx => by go_simp⟩) hSq24 ?_
      simp only [Act.put, List.getElem_toArray, List.getElem_cons_zero, List.getElem_cons_succ, List.setIfInBounds_toArray, List.set_cons_zero, List.set_cons_succ]
      refine wpAnyH_take (i := 1) (v := Value.slice (some ⟨g, o, none⟩) n c) rfl (by kernel_rfl) (by kernel_rfl) (by kernel_rfl) (fun _ _ _ h => h) (Or.inl ⟨by rfl, fun x hx => by go_simp⟩) hSq24 ?_
      simp only [Act.put, List.getElem_toArray, List.getElem_cons_zero, List.getElem_cons_succ, List.setIfInBounds_toArray, List.set_cons_zero, List.set_cons_succ]
      refine wpAnyH_take (i := 2) (v := Value.int .i64 (n : Nat)) rfl (by kernel_rfl) (by kernel_rfl) (by kernel_rfl) (fun _ _ _ h => h) (Or.inl ⟨by rfl, fun x hx => by go_simp⟩) hSq24 ?_
      simp only [Act.put, List.getElem_toArray, List.getElem_cons_zero, List.getElem_cons_succ, List.setIfInBounds_toArray, List.set_cons_zero, List.set_cons_succ]
      refine wpAnyH_take (i := 3) (v := Value.bool true) rfl (by kernel_rfl) (by kernel_rfl) (by kernel_rfl) (fun _ _ _ h => h) (Or.inl ⟨by rfl, fun x hx => by go_simp⟩) hSq24 ?_
      simp only [Act.put, List.getElem_toArray, List.getElem_cons_zero, List.getElem_cons_succ, List.setIfInBounds_toArray, List.set_cons_zero, List.set_cons_succ]
      refine wpAnyH_take (i := 4) (v := Value.bool true) rfl (by kernel_rfl) (by kernel_rfl) (by kernel_rfl) (fun _ _ _ h => h) (Or.inl ⟨by rfl, fun x hx => by go_simp⟩) hSq24 ?_
      simp only [Act.put, List.getElem_toArray, List.getElem_cons_zero, List.getElem_cons_succ, List.setIfInBounds_toArray, List.set_cons_zero, List.set_cons_succ]
      refine wpAnyH_take (i := 5) (v := Value.slice (some ⟨g, o, none⟩) n c) rfl (by kernel_rfl) (by kernel_rfl) (by kernel_rfl) (fun _ _ _ h => h) (Or.inl ⟨by rfl, fun x hx => by go_simp⟩) hSq24 ?_
      simp only [Act.put, List.getElem_toArray, List.getElem_cons_zero, List.getElem_cons_succ, List.setIfInBounds_toArray, List.set_cons_zero, List.set_cons_succ]
      refine wpAnyH_take (i := 6) (v := Value.int .i64 (k : Nat)) rfl (by kernel_rfl) (by kernel_rfl) (by kernel_rfl) (fun _ _ _ h => h) (Or.inl ⟨by rfl, fun x hx => by go_simp⟩) hSq24 ?_
      simp only [Act.put, List.getElem_toArray, List.getElem_cons_zero, List.getElem_cons_succ, List.setIfInBounds_toArray, List.set_cons_zero, List.set_cons_succ]
      refine wpAnyH_take (i := 7) (v := Value.pointer (some ⟨g, o + k * 32, none⟩)) rfl (by kernel_rfl) (by kernel_rfl) (by kernel_rfl) (fun _ _ _ h => h) (Or.inl ⟨by rfl, fun x hx => by go_simp⟩) hSq24 ?_
      simp only [Act.put, List.getElem_toArray, List.getElem_cons_zero, List.getElem_cons_succ, List.setIfInBounds_toArray, List.set_cons_zero, List.set_cons_succ]
      refine wpAnyH_take (i := 8) rfl (by kernel_rfl) (by kernel_rfl) (by kernel_rfl) (fun _ _ _ h => h) (yieldsIf_load_mid (by rfl) 25 (.tmp 14) rfl (g) (o + k * 32) (by rfl) (s.map bv) _ (fun x hx => HR.out _ hx.2) Try.underlying25 rfl (by rw [List.length_map, HS.out]; exact Try.sizeA32)) hSq24 ?_
      simp only [Act.put, List.getElem_toArray, List.getElem_cons_zero, List.getElem_cons_succ, List.setIfInBounds_toArray, List.set_cons_zero, List.set_cons_succ]
      refine wpAnyH_take (i := 9) rfl (by kernel_rfl) (by kernel_rfl) (by kernel_rfl) (fun _ _ _ h => h) (yieldsIf_load_mid (by rfl) 25 (.tmp 3) rfl (hb) 0 (by rfl) (h.map bv) _ (fun x hx => blk_rangeP hx.1) Try.underlying25 rfl (by rw [List.length_map, HH.out]; exact Try.sizeA32)) hSq24 ?_
      simp only [Act.put, List.getElem_toArray, List.getElem_cons_zero, List.getElem_cons_succ, List.setIfInBounds_toArray, List.set_cons_zero, List.set_cons_succ]
      refine wpAnyH_ready (rs := [10]) (by kernel_rfl) (by simp) ?_
      refine AllReadyH.cons rfl (fun K hK => ?_) AllReadyH.nil
      rw [if_pos (by rfl)]
      go_simp
      have hlo : base ≤ ((World.drew wr)).heap.size := Nat.le_trans (Nat.le_of_eq HBS.out) hSq24.2.size
      go_wp2_with (go_at_call 53; refine (Less_calls s h HS.out HH.out _).mono ?_; rintro e yq26 ⟨rfl, bqq27⟩)
      rw [HLT.out]
      have hHq29 := Lib.hid (hHq25.out.below bqq27)
      refine hK.out _ _ ⟨hSq24.1.below bqq27 hSq24.1.lt, hSq24.2.trans (bqq27.mono (Nat.le_trans (Nat.le_of_eq HBS.out) hSq24.2.size))⟩ (fun hSq28 => ?_)
      clear hK K hSq24 bqq27 hlo
      refine wpAnyH_take (i := 11) (v := Value.bool false) rfl (by kernel_rfl) (by kernel_rfl) (by kernel_rfl) (fun _ _ _ h => h) (Or.inl ⟨by rfl, fun x hx => by go_simp⟩) hSq28 ?_
      simp only [Act.put, List.getElem_toArray, List.getElem_cons_zero, List.getElem_cons_succ, List.setIfInBounds_toArray, List.set_cons_zero, List.set_cons_succ]
      refine wpAnyH_done (by kernel_rfl) ?_ _
      have hX3 := hSq28.1
      have hB3 := hSq28.2
      have HO3 := hHq29
      clear hSq28 hHq29
      go_wp2_with (first | ((with_reducible show wpList _ _ _ (⟨some 29, _, _, _, _, _⟩ :: _) _ _); refine wpList_load_mid rfl 25 (.tmp 3) rfl (hb) 0 (by rfl) (h.map bv) _ (blk_rangeP hX3) Try.underlying25 rfl (by rw [List.length_map, HH.out]; exact Try.sizeA32) ?_) | ((with_reducible show wpList _ _ _ (⟨some 30, _, _, _, _, _⟩ :: _) _ _); refine wpList_bsH rfl 33 25 (.tmp 29) rfl h HH.out (by rfl) Try.underlying33 Try.infoH2 ?_; intro qq30 wq31 eqq32 szq33 bbq34 hNq35; have ltq36 : hb < yq26.heap.size := hX3.lt; have hCq37 := hX3.below bbq34 hX3.lt; have hCq38 := Lib.hid (HO3.out.below bbq34); have hBq39 := hB3.trans (bbq34.mono (Nat.le_trans (Nat.le_of_eq HBS.out) hB3.size)); clear hX3 HO3 hB3; clear bbq34 eqq32 szq33) | ((with_reducible show wpList _ _ _ (⟨some 31, _, _, _, _, _⟩ :: _) _ _); refine wpList_append_h rfl (.tmp 28) (.tmp 30) 33 rfl ob 25 Try.underlying33 Try.infoH3 _ (l.take k) h HH.out (by rfl) hCq38.out qq30 1 (by rfl) _ hNq35 (by rw [List.length_take]; omega) (by rw [HOB.out]; exact hCq37.lt) ?_; intro vq40 wq41 hOq42 gq43; have hXq44 := hCq37.grown gq43 (fun e => HNE.out _ (hCq38.out.lt _ e.symm).1); have hBq46 := hBq39.grown gq43 (Nat.le_trans (Nat.le_of_eq HBS.out) hBq39.size) (fun q e => Nat.le_trans HBO.out (hCq38.out.lt q e).1); have HOq45 := Lib.hid hOq42; clear hOq42 hNq35 gq43 hCq38 hCq37 hBq39))
      have HO5 : Hid (HashOwn wq41 ob 25 vq40 (putK l h k)) := by rw [← HE1.out]; exact HOq45.out
      have HX5 := Lib.hid hXq44
      have HB5 := Lib.hid hBq46
      clear HOq45 hXq44 hBq46 HE1
      go_loopw [5, 6] (fun v i wr => ∃ (j : Nat), k ≤ j ∧ j ≤ n ∧ i = .int .i64 (j : Nat) ∧ Hid (HashOwn wr ob 25 v (putK l h j)) ∧ Hid (Blk wr hb (h.map bv).toArray 25) ∧ Hid (Below base w wr)) (fun _ i _ => n - (intOf i).toNat)
      case atStart => exact ⟨k, by omega, by omega, rfl, HO5, HX5, HB5⟩
      case round =>
        clear HO5 HX5 HB5
        obtain ⟨j, hkj, hj, rfl, HO, HX, HB⟩ := hrel
        obtain ⟨dao, dm, dc, rfl⟩ := HO.out.sliceM
        have HDN : Hid ((putK l h j).length ≤ 1000000) := by
          show _ ≤ _
          have e1 := putK_len l h j
          have e2 := HN.out
          omega
        by_cases hjn : j < n
        · obtain ⟨s2, hs⟩ : ∃ s, l[j]? = some s := ⟨l[j]'(by rw [← HN.out]; omega), List.getElem?_eq_getElem _⟩
          have HS2 := Lib.hid (H32.out s2 (List.mem_of_getElem? hs))
          have hr := trivial
          have HRJ : Hid (∀ w', Below base w w' → w'.rangeAt g (o + j * 32) (s2.map bv)) := fun w' b => (HL.out w' b).range' j s2 hs
          have HSJ := Lib.hid hs
          have hX := HX.out
          have hB := HB.out
          clear hr hs HX HB
          by_cases he : s2 = h
          · have HST : Hid (putK l h (j + 1) = putK l h j) := by
              show _ = _
              rw [putK_succ l h j s2 HSJ.out (by rw [← HT.out]; exact hkj), if_pos he, List.append_nil]
            subst he
            have heq : ∀ x, (Op.equalIn 10000 25 (.agg (s2.map bv).toArray) (.agg (s2.map bv).toArray)).run Try.prog x = .ok true x := fun x => by rw [run_eq_h2 x s2 s2 HH.out HH.out]; simp
            go_wp2_with fail
            refine wp_region_quiet_lit (by kernel_rfl) (by kernel_rfl) ?_
            repeat (first | ((with_reducible show wpQuiet _ _ _ _ (⟨some 39, _, _, _, _, _⟩ :: _) _); refine wpQuiet_loadMid (by rfl) 25 (.tmp 38) rfl g (o + j * 32) (by rfl) (s2.map bv) _ (fun w' hw' => by obtain ⟨nq, rfl⟩ := hw'; exact HRJ.out _ (below_drewN hB _)) Try.underlying25 rfl (by rw [List.length_map, HH.out]; exact Try.sizeA32) ?_; simp only [Act.put, List.setIfInBounds_toArray, List.set_cons_succ, List.set_cons_zero]) | ((with_reducible show wpQuiet _ _ _ _ (⟨some 40, _, _, _, _, _⟩ :: _) _); refine wpQuiet_loadMid (by rfl) 25 (.tmp 3) rfl hb 0 (by rfl) (s2.map bv) _ (fun w' hw' => by obtain ⟨nq, rfl⟩ := hw'; exact blk_rangeP (hX.drewN _)) Try.underlying25 rfl (by rw [List.length_map, HH.out]; exact Try.sizeA32) ?_; simp only [Act.put, List.setIfInBounds_toArray, List.set_cons_succ, List.set_cons_zero]) | go_big_quiet_step (fail))
            refine wpQuiet_nil ?_
            intro _ hw'
            obtain ⟨nq, hw''⟩ := hw'
            subst hw''
            clear heq
            go_wp2_with fail
            go_roundw
            case rel => exact ⟨j + 1, by omega, by omega, by go_num, by rw [HST.out]; exact Lib.hid (HO.out.below (below_drewN (Below.refl _ _) _)), Lib.hid (hX.below (below_drewN (Below.refl _ _) _) hX.lt), Lib.hid (below_drewN hB _)⟩
            case measure => simp [intOf]; omega
          · have HST : Hid (putK l h (j + 1) = putK l h j ++ [s2]) := by
              show _ = _
              rw [putK_succ l h j s2 HSJ.out (by rw [← HT.out]; exact hkj), if_neg he]
            have heq : ∀ x, (Op.equalIn 10000 25 (.agg (s2.map bv).toArray) (.agg (h.map bv).toArray)).run Try.prog x = .ok false x := fun x => by rw [run_eq_h2 x s2 h HS2.out HH.out, show (s2 == h) = false by rw [beq_eq_false_iff_ne]; exact he]
            go_wp2_with fail
            refine wp_region_quiet_lit (by kernel_rfl) (by kernel_rfl) ?_
            repeat (first | ((with_reducible show wpQuiet _ _ _ _ (⟨some 39, _, _, _, _, _⟩ :: _) _); refine wpQuiet_loadMid (by rfl) 25 (.tmp 38) rfl g (o + j * 32) (by rfl) (s2.map bv) _ (fun w' hw' => by obtain ⟨nq, rfl⟩ := hw'; exact HRJ.out _ (below_drewN hB _)) Try.underlying25 rfl (by rw [List.length_map, HS2.out]; exact Try.sizeA32) ?_; simp only [Act.put, List.setIfInBounds_toArray, List.set_cons_succ, List.set_cons_zero]) | ((with_reducible show wpQuiet _ _ _ _ (⟨some 40, _, _, _, _, _⟩ :: _) _); refine wpQuiet_loadMid (by rfl) 25 (.tmp 3) rfl hb 0 (by rfl) (h.map bv) _ (fun w' hw' => by obtain ⟨nq, rfl⟩ := hw'; exact blk_rangeP (hX.drewN _)) Try.underlying25 rfl (by rw [List.length_map, HH.out]; exact Try.sizeA32) ?_; simp only [Act.put, List.setIfInBounds_toArray, List.set_cons_succ, List.set_cons_zero]) | go_big_quiet_step (fail))
            refine wpQuiet_nil ?_
            intro _ hw'
            obtain ⟨nq, hw''⟩ := hw'
            subst hw''
            clear heq
            obtain ⟨wd, hwd⟩ : ∃ x, x = wr.drewN nq := ⟨_, rfl⟩
            have hXd : Blk wd hb (h.map bv).toArray 25 := by rw [hwd]; exact hX.below (below_drewN (Below.refl _ _) _) hX.lt
            have HOd : Hid (HashOwn wd ob 25 (.slice dao dm dc) (putK l h j)) := by rw [hwd]; exact HO.out.below (below_drewN (Below.refl _ _) _)
            have hBd : Below base w wd := by rw [hwd]; exact below_drewN hB _
            rw [← hwd]
            clear hwd hX hB HO
            go_wp2_with (first | ((with_reducible show wpList _ _ _ (⟨some 46, _, _, _, _, _⟩ :: _) _ _); refine wpList_load_mid rfl 25 (.tmp 45) rfl g (o + j * 32) (by rfl) (s2.map bv) _ (HRJ.out _ hBd) Try.underlying25 rfl (by rw [List.length_map, HS2.out]; exact Try.sizeA32) ?_) | ((with_reducible show wpList _ _ _ (⟨some 47, _, _, _, _, _⟩ :: _) _ _); refine wpList_bsH rfl 33 25 (.tmp 46) rfl s2 HS2.out (by rfl) Try.underlying33 Try.infoH2 ?_; intro qq47 wq48 eqq49 szq50 bbq51 hNq52; have ltq53 : hb < wd.heap.size := hXd.lt; have hCq54 := hXd.below bbq51 hXd.lt; have hCq55 := Lib.hid (HOd.out.below bbq51); have hBq56 := hBd.trans (bbq51.mono (Nat.le_trans (Nat.le_of_eq HBS.out) hBd.size)); clear hXd HOd hBd; clear bbq51 eqq49 szq50) | ((with_reducible show wpList _ _ _ (⟨some 48, _, _, _, _, _⟩ :: _) _ _); refine wpList_append_h rfl (.tmp 42) (.tmp 47) 33 rfl ob 25 Try.underlying33 Try.infoH3 _ (putK l h j) s2 HS2.out (by rfl) hCq55.out qq47 1 (by rfl) _ hNq52 HDN.out (by rw [HOB.out]; exact hCq54.lt) ?_; intro vq57 wq58 hOq59 gq60; have hXq61 := hCq54.grown gq60 (fun e => HNE.out _ (hCq55.out.lt _ e.symm).1); have hBq63 := hBq56.grown gq60 (Nat.le_trans (Nat.le_of_eq HBS.out) hBq56.size) (fun q e => Nat.le_trans HBO.out (hCq55.out.lt q e).1); have HOq62 := Lib.hid hOq59; clear hOq59 hNq52 gq60 hCq55 hCq54 hBq56))
            go_roundw
            case rel => exact ⟨j + 1, by omega, by omega, by go_num, Lib.hid (by rw [HST.out]; exact HOq62.out), Lib.hid hXq61, Lib.hid hBq63⟩
            case measure => simp [intOf]; omega
        · obtain rfl : n = j := by omega
          have HF : Hid (HashOwn wr ob 25 (.slice dao dm dc) (putT l h)) := by
            have e : putT l h = putK l h n := by unfold putT; rw [HN.out]
            rw [e]; exact HO.out
          go_wp2_with fail
          go_returns
          exact ⟨_, rfl, HF.out.weakR HBO.out, HB.out⟩
    · obtain rfl : n = k := by omega
      go_wp2_with fail
      refine wp_region_held_drew (S := fun x => Blk x (hb) (h.map bv).toArray 25 ∧ Below base w x) (by kernel_rfl) ⟨hX.drew, below_drewN hB 1⟩ (fun hSq64 => ?_)
      have hHq65 := Lib.hid (HO.out.drew)
      refine wpAnyH_take (i := 0) (v := Value.int .i64 (n : Nat)) rfl (by kernel_rfl) (by kernel_rfl) (by kernel_rfl) (fun _ _ _ h => h) (Or.inl ⟨by rfl, fun x hx => by go_simp⟩) hSq64 ?_
      simp only [Act.put, List.getElem_toArray, List.getElem_cons_zero, List.getElem_cons_succ, List.setIfInBounds_toArray, List.set_cons_zero, List.set_cons_succ]
      refine wpAnyH_take (i := 1) (v := Value.slice ao n c) rfl (by kernel_rfl) (by kernel_rfl) (by kernel_rfl) (fun _ _ _ h => h) (Or.inl ⟨by rfl, fun x hx => by go_simp⟩) hSq64 ?_
      simp only [Act.put, List.getElem_toArray, List.getElem_cons_zero, List.getElem_cons_succ, List.setIfInBounds_toArray, List.set_cons_zero, List.set_cons_succ]
      refine wpAnyH_take (i := 2) (v := Value.int .i64 (n : Nat)) rfl (by kernel_rfl) (by kernel_rfl) (by kernel_rfl) (fun _ _ _ h => h) (Or.inl ⟨by rfl, fun x hx => by go_simp⟩) hSq64 ?_
      simp only [Act.put, List.getElem_toArray, List.getElem_cons_zero, List.getElem_cons_succ, List.setIfInBounds_toArray, List.set_cons_zero, List.set_cons_succ]
      refine wpAnyH_take (i := 3) (v := Value.bool false) rfl (by kernel_rfl) (by kernel_rfl) (by kernel_rfl) (fun _ _ _ h => h) (Or.inl ⟨by rfl, fun x hx => by go_simp⟩) hSq64 ?_
      simp only [Act.put, List.getElem_toArray, List.getElem_cons_zero, List.getElem_cons_succ, List.setIfInBounds_toArray, List.set_cons_zero, List.set_cons_succ]
      refine wpAnyH_take (i := 4) (v := Value.bool false) rfl (by kernel_rfl) (by kernel_rfl) (by kernel_rfl) (fun _ _ _ h => h) (Or.inl ⟨by rfl, fun x hx => by go_simp⟩) hSq64 ?_
      simp only [Act.put, List.getElem_toArray, List.getElem_cons_zero, List.getElem_cons_succ, List.setIfInBounds_toArray, List.set_cons_zero, List.set_cons_succ]
      refine wpAnyH_take (i := 5) (v := undef) rfl (by kernel_rfl) (by kernel_rfl) (by kernel_rfl) (fun _ _ _ h => h) (Or.inr ⟨by rfl, rfl⟩) hSq64 ?_
      simp only [Act.put, List.getElem_toArray, List.getElem_cons_zero, List.getElem_cons_succ, List.setIfInBounds_toArray, List.set_cons_zero, List.set_cons_succ]
      refine wpAnyH_take (i := 6) (v := undef) rfl (by kernel_rfl) (by kernel_rfl) (by kernel_rfl) (fun _ _ _ h => h) (Or.inr ⟨by rfl, rfl⟩) hSq64 ?_
      simp only [Act.put, List.getElem_toArray, List.getElem_cons_zero, List.getElem_cons_succ, List.setIfInBounds_toArray, List.set_cons_zero, List.set_cons_succ]
      refine wpAnyH_take (i := 7) (v := undef) rfl (by kernel_rfl) (by kernel_rfl) (by kernel_rfl) (fun _ _ _ h => h) (Or.inr ⟨by rfl, rfl⟩) hSq64 ?_
      simp only [Act.put, List.getElem_toArray, List.getElem_cons_zero, List.getElem_cons_succ, List.setIfInBounds_toArray, List.set_cons_zero, List.set_cons_succ]
      refine wpAnyH_take (i := 8) (v := undef) rfl (by kernel_rfl) (by kernel_rfl) (by kernel_rfl) (fun _ _ _ h => h) (Or.inr ⟨by rfl, rfl⟩) hSq64 ?_
      simp only [Act.put, List.getElem_toArray, List.getElem_cons_zero, List.getElem_cons_succ, List.setIfInBounds_toArray, List.set_cons_zero, List.set_cons_succ]
      refine wpAnyH_take (i := 9) (v := undef) rfl (by kernel_rfl) (by kernel_rfl) (by kernel_rfl) (fun _ _ _ h => h) (Or.inr ⟨by rfl, rfl⟩) hSq64 ?_
      simp only [Act.put, List.getElem_toArray, List.getElem_cons_zero, List.getElem_cons_succ, List.setIfInBounds_toArray, List.set_cons_zero, List.set_cons_succ]
      refine wpAnyH_take (i := 10) (v := undef) rfl (by kernel_rfl) (by kernel_rfl) (by kernel_rfl) (fun _ _ _ h => h) (Or.inr ⟨by rfl, rfl⟩) hSq64 ?_
      simp only [Act.put, List.getElem_toArray, List.getElem_cons_zero, List.getElem_cons_succ, List.setIfInBounds_toArray, List.set_cons_zero, List.set_cons_succ]
      refine wpAnyH_take (i := 11) (v := Value.bool false) rfl (by kernel_rfl) (by kernel_rfl) (by kernel_rfl) (fun _ _ _ h => h) (Or.inl ⟨by rfl, fun x hx => by go_simp⟩) hSq64 ?_
      simp only [Act.put, List.getElem_toArray, List.getElem_cons_zero, List.getElem_cons_succ, List.setIfInBounds_toArray, List.set_cons_zero, List.set_cons_succ]
      refine wpAnyH_done (by kernel_rfl) ?_ _
      have hX3 := hSq64.1
      have hB3 := hSq64.2
      have HO3 := hHq65
      clear hSq64 hHq65
      go_wp2_with (first | ((with_reducible show wpList _ _ _ (⟨some 29, _, _, _, _, _⟩ :: _) _ _); refine wpList_load_mid rfl 25 (.tmp 3) rfl (hb) 0 (by rfl) (h.map bv) _ (blk_rangeP hX3) Try.underlying25 rfl (by rw [List.length_map, HH.out]; exact Try.sizeA32) ?_) | ((with_reducible show wpList _ _ _ (⟨some 30, _, _, _, _, _⟩ :: _) _ _); refine wpList_bsH rfl 33 25 (.tmp 29) rfl h HH.out (by rfl) Try.underlying33 Try.infoH2 ?_; intro qq66 wq67 eqq68 szq69 bbq70 hNq71; have ltq72 : hb < (World.drew wr).heap.size := hX3.lt; have hCq73 := hX3.below bbq70 hX3.lt; have hCq74 := Lib.hid (HO3.out.below bbq70); have hBq75 := hB3.trans (bbq70.mono (Nat.le_trans (Nat.le_of_eq HBS.out) hB3.size)); clear hX3 HO3 hB3; clear bbq70 eqq68 szq69) | ((with_reducible show wpList _ _ _ (⟨some 31, _, _, _, _, _⟩ :: _) _ _); refine wpList_append_h rfl (.tmp 28) (.tmp 30) 33 rfl ob 25 Try.underlying33 Try.infoH3 _ (l.take n) h HH.out (by rfl) hCq74.out qq66 1 (by rfl) _ hNq71 (by rw [List.length_take]; omega) (by rw [HOB.out]; exact hCq73.lt) ?_; intro vq76 wq77 hOq78 gq79; have hXq80 := hCq73.grown gq79 (fun e => HNE.out _ (hCq74.out.lt _ e.symm).1); have hBq82 := hBq75.grown gq79 (Nat.le_trans (Nat.le_of_eq HBS.out) hBq75.size) (fun q e => Nat.le_trans HBO.out (hCq74.out.lt q e).1); have HOq81 := Lib.hid hOq78; clear hOq78 hNq71 gq79 hCq74 hCq73 hBq75))
      have HO5 : Hid (HashOwn wq77 ob 25 vq76 (putK l h n)) := by rw [← HE1.out]; exact HOq81.out
      have HX5 := Lib.hid hXq80
      have HB5 := Lib.hid hBq82
      clear HOq81 hXq80 hBq82 HE1
      go_loopw [5, 6] (fun v i wr => ∃ (j : Nat), n ≤ j ∧ j ≤ n ∧ i = .int .i64 (j : Nat) ∧ Hid (HashOwn wr ob 25 v (putK l h j)) ∧ Hid (Blk wr hb (h.map bv).toArray 25) ∧ Hid (Below base w wr)) (fun _ i _ => n - (intOf i).toNat)
      case atStart => exact ⟨n, by omega, by omega, rfl, HO5, HX5, HB5⟩
      case round =>
        clear HO5 HX5 HB5
        obtain ⟨j, hkj, hj, rfl, HO, HX, HB⟩ := hrel
        obtain ⟨dao, dm, dc, rfl⟩ := HO.out.sliceM
        have HDN : Hid ((putK l h j).length ≤ 1000000) := by
          show _ ≤ _
          have e1 := putK_len l h j
          have e2 := HN.out
          omega
        obtain rfl : n = j := by omega
        have HF : Hid (HashOwn wr ob 25 (.slice dao dm dc) (putT l h)) := by
          have e : putT l h = putK l h n := by unfold putT; rw [HN.out]
          rw [e]; exact HO.out
        go_wp2_with fail
        go_returns
        exact ⟨_, rfl, HF.out.weakR HBO.out, HB.out⟩
end Go.Proofs.Ytjlpdbaknhbgdaa
