/-
  bevyref19.Tell, Give, SameTexts.
-/
import Derived.Test.YtlomofcnknpciaaGleanLaw
import Derived.Test.YtlomofcnknpciaaGleanRef
import Derived.Test.YtlomofcnknpciaaGleanTell
import Derived.WalkLawsBesides
import Derived.Laws.AppendOwnNone
import Derived.Outline
import Derived.Handy
import Derived.Deep.RegionHeld
set_option linter.unusedSimpArgs false
set_option linter.unusedVariables false
namespace Go.Proofs.Ytlomofcnknpciaa
open Go.RowKit

theorem rows_apart {w : World} {b1 b2 n1 n2 s1 s2 : Nat} {e1 e2 : TypeId} {v1 v2 : Value} {x1 x2 : List Value} (h1 : w.ownsRow b1 e1 s1 v1 n1 x1) (h2 : w.ownsRow b2 e2 s2 v2 n2 x2) (he : e1 ≠ e2) : v1.ownBlock = none ∨ v1.ownBlock ≠ v2.ownBlock := by
  rcases h1.2 with ⟨h0, _⟩ | ⟨g, cap, cur, rfl, hb, hg, _⟩
  · left; rw [h0]; rfl
  · right
    rcases h2.2 with ⟨h0, _⟩ | ⟨g', cap', cur', rfl, hb', hg', _⟩
    · rw [h0]; intro e; cases e
    · intro e
      injection e with e
      have e2 : g = g' := e
      rw [e2, hg'] at hg
      injection hg with hg
      injection hg with _ hg
      exact he hg.symm
set_option maxHeartbeats 16000000 in
set_option maxRecDepth 100000 in
theorem RTell_calls (v : Value) (l : List Kn) (w : World) (h : KnAt w v l) (hn : l.length ≤ 1000) :
    Calls Try.prog 41 #[v] w fun e w' => ∃ v' : Value, e = .returned v' ∧ ∃ L : List Kn, L.Perm l ∧ (L.Pairwise fun x y => 0 ≤ cmpD y x) ∧ ∃ R : List HsT, HashOwn w' w.heap.size 23 v' R ∧ Rises R ∧ (∀ x, x ∈ R ↔ x ∈ tellT L L.length) ∧ Below w.heap.size w w' := by
  have H := Lib.hid h
  clear h
  go_enter Try.func41, Try.ntmps41
  go_wp2_with fail
  refine (sorted_calls true v l w H.out hn).mono ?_
  rintro e w3 ⟨v3, rfl, L, hp, hs, h3, b3⟩
  have HP := Lib.hid hp
  have HS : Hid (L.Pairwise fun x y => 0 ≤ cmpD y x) := hs
  have HB3 := Lib.hid b3
  have H3 := Lib.hid h3
  have hLn : L.length ≤ 1000 := by rw [hp.length_eq]; exact hn
  obtain ⟨ao, cc, rfl⟩ := h3.slice
  obtain ⟨n, hnn⟩ : ∃ n, n = L.length := ⟨_, rfl⟩
  have HN := Lib.hid hnn
  rw [← hnn] at hLn H3 ⊢
  have hb0 := Lib.hid (Below.refl w3.heap.size w3)
  clear hp hs h3 b3 hnn
  go_wp2_with fail
  go_loopw [4, 5] (fun ov iv wr => ∃ (i : Nat) (O : List HsT), i ≤ n ∧ iv = .int .i64 i ∧ Hid (HashOwn wr w3.heap.size 23 ov O) ∧ Hid (Rises O) ∧ Hid (∀ x, x ∈ O ↔ x ∈ tellT L i) ∧ Hid (O.length ≤ i) ∧ Hid (Below w3.heap.size w3 wr)) (fun _ iv _ => n - (intOf iv).toNat)
  case atStart => exact ⟨0, [], by omega, rfl, Lib.hid (HashOwn.nil _ _ _), Lib.hid List.Pairwise.nil, Lib.hid (by simp [tellT]), Lib.hid (by simp), hb0⟩
  case round =>
    obtain ⟨i, O, hi, rfl, hO, hR, hM, hLn2, hB⟩ := hrel
    clear hb0
    have hol := hLn2.out
    obtain ⟨oao, oc, rfl⟩ := hO.out.slice
    by_cases hlt : i < n
    · by_cases h256 : O.length < 256
      · obtain ⟨c, hc⟩ : ∃ c, L[i]? = some c := ⟨_, List.getElem?_eq_getElem (by rw [← HN.out]; exact hlt)⟩
        have hL := (H3.out.below hB.out).at
        obtain ⟨g, o, rfl, hrg⟩ := hL.range Kn.cells_len i c hc
        have H32 : Hid (c.h.length = 32) := c.hh
        by_cases hs0 : c.s = []
        · have hM5 : Hid (∀ x, x ∈ O ↔ x ∈ tellT L (i + 1)) := fun x => by rw [tellT_skip hc (by simp [neK, hs0])]; exact hM.out x
          have hse : c.s.isEmpty = true := by rw [hs0]; rfl
          clear hc hL hs0 hM
          go_wp2_with ((with_reducible show wpList _ _ _ (⟨some 23, _, _, _, _, _⟩ :: _) _ _); refine wpList_load1 rfl 9 (.tmp 22) rfl g (o + i * 34 + 33) (by rfl) _ _ (kn_s hrg) Try.underlying9 rfl ?_)
          go_wp2_with fail
          go_roundw
          case rel => exact ⟨i + 1, O, by omega, by go_num, hO, hR, hM5, Lib.hid (by omega), hB⟩
          case measure => simp [intOf]; omega
        · have hM5 : Hid (∀ R' : List HsT, (∀ y, y ∈ R' ↔ y ∈ O ∨ y = c.h) → ∀ y, y ∈ R' ↔ y ∈ tellT L (i + 1)) := fun R' hR' y => by
            rw [hR', tellT_step hc (by cases h : c.s with | nil => exact absurd h hs0 | cons _ _ => simp [neK, h]), hM.out]
            unfold stepT
            split
            · rw [List.mem_append, List.mem_singleton]
            · rename_i hno
              constructor
              · rintro (h1 | h1)
                · exact h1
                · subst h1
                  refine Classical.byContradiction fun h2 => hno ⟨?_, h2⟩
                  rw [← same_len hR.out (tellT_nodup _ _) hM.out]; exact h256
              · exact .inl
          have hse : c.s.isEmpty = false := by cases h : c.s with | nil => exact absurd h hs0 | cons _ _ => rfl
          clear hc hL hs0 hM
          go_wp2_with (first | ((with_reducible show wpList _ _ _ (⟨some 23, _, _, _, _, _⟩ :: _) _ _); refine wpList_load1 rfl 9 (.tmp 22) rfl g (o + i * 34 + 33) (by rfl) _ _ (kn_s hrg) Try.underlying9 rfl ?_) | ((with_reducible show wpList _ _ _ (⟨some 30, _, _, _, _, _⟩ :: _) _ _); refine wpList_load_mid rfl 23 (.tmp 29) rfl g (o + i * 34) (by rfl) (c.h.map bv) _ (kn_h hrg) Try.underlying23 rfl (by rw [List.length_map, H32.out]; exact Try.sizeHash) ?_))
          refine (put19_calls w3.heap.size _ O c.h _ hO.out hR.out H32.out (by omega) hB.out.size).mono ?_
          rintro e w6 ⟨v6, R6, rfl, h6, hr6, hm6, hl6, b6⟩
          have hO6 := Lib.hid h6
          have hR6 := Lib.hid hr6
          have hM6 : Hid (∀ y, y ∈ R6 ↔ y ∈ tellT L (i + 1)) := hM5.out R6 hm6
          have hB6 := Lib.hid (hB.out.trans (b6.mono hB.out.size))
          have hL6 : Hid (R6.length ≤ i + 1) := by show _ ≤ _; omega
          clear h6 hr6 hm6 hl6 b6 hO hR hB hM5 hrg
          go_wp2_with fail
          go_roundw
          case rel => exact ⟨i + 1, R6, by omega, by go_num, hO6, hR6, hM6, hL6, hB6⟩
          case measure => simp [intOf]; omega
      · have hM7 : Hid (∀ x, x ∈ O ↔ x ∈ tellT L L.length) := fun x => by
          rw [tellT_full (i := i) (by have := HN.out; omega) (by rw [← same_len hR.out (tellT_nodup _ _) hM.out]; omega)]
          exact hM.out x
        clear hM
        go_wp2_with fail
        go_returns
        exact ⟨_, rfl, L, HP.out, HS.out, O, hO.out.low HB3.out.size, hR.out, hM7.out, HB3.out.trans (hB.out.mono HB3.out.size)⟩
    · obtain rfl : i = n := by omega
      have hM7 : Hid (∀ x, x ∈ O ↔ x ∈ tellT L L.length) := fun x => by
        rw [← HN.out]; exact hM.out x
      clear hM
      go_wp2_with fail
      go_returns
      exact ⟨_, rfl, L, HP.out, HS.out, O, hO.out.low HB3.out.size, hR.out, hM7.out, HB3.out.trans (hB.out.mono HB3.out.size)⟩
set_option maxHeartbeats 16000000 in
set_option maxRecDepth 100000 in
theorem RGive_calls (v1 v2 : Value) (asked : List HsT) (l : List Kn) (w : World) (h1 : HashesAt w v1 asked) (h2 : KnAt w v2 l) (hn1 : asked.length ≤ 100000) (hn : l.length ≤ 1000) :
    Calls Try.prog 44 #[v1, v2] w fun e w' => ∃ v' : Value, e = .returned v' ∧ ∃ L : List Kn, L.Perm (l.foldl (stepF asked) []) ∧ (L.Pairwise fun x y => 0 ≤ cmpK y x) ∧ TxOwn w' w.heap.size 9 v' (L.foldl stepG []) ∧ Below w.heap.size w w' := by
  obtain ⟨hao, hcp, rfl, _⟩ := h1.slice
  obtain ⟨kao, kc, rfl⟩ := h2.slice
  have H1 := Lib.hid h1
  have H2 := Lib.hid h2
  obtain ⟨m, hmm⟩ : ∃ m, m = l.length := ⟨_, rfl⟩
  have HM := Lib.hid hmm
  rw [← hmm] at hn H2 ⊢
  obtain ⟨Fl, hF⟩ : ∃ Fl, Fl = l.foldl (stepF asked) [] := ⟨_, rfl⟩
  have HF := Lib.hid hF
  have hFl : Fl.length ≤ 1000 := by
    rw [hF]
    refine Nat.le_trans (stepF_len _ _ _) ?_
    simp; omega
  rw [← hF]
  have hb0 := Lib.hid (Below.refl w.heap.size w)
  clear h1 h2 hmm hF
  go_enter Try.func44, Try.ntmps44
  go_wp2_with fail
  go_loopw [5, 6, 7] (fun mv lv kv wr => ∃ (q : Nat) (acc : List Kn), q ≤ m ∧ kv = .int .i64 q ∧ Hid (acc = (l.take q).foldl (stepF asked) []) ∧ Hid (HashOwn wr w.heap.size 23 mv (acc.map (·.h))) ∧ Hid (KnOwn wr w.heap.size 88 lv acc) ∧ Hid (Below w.heap.size w wr)) (fun _ _ kv _ => m - (intOf kv).toNat)
  case atStart => exact ⟨0, [], by omega, rfl, Lib.hid rfl, Lib.hid (HashOwn.nil _ _ _), Lib.hid (ROwn.nil _ _ _), hb0⟩
  case round =>
    obtain ⟨q, acc, hq, rfl, hA, hO, hF, hBe⟩ := hrel
    clear hb0
    obtain ⟨oao, oc, rfl⟩ := hF.out.slice
    obtain ⟨mao, mc, rfl⟩ := hO.out.slice
    rw [List.length_map] at hO ⊢
    have hal : acc.length ≤ q := by
      rw [hA.out]
      refine Nat.le_trans (stepF_len _ _ _) ?_
      simp; omega
    by_cases hlt : q < m
    · obtain ⟨c, hc⟩ : ∃ c, l[q]? = some c := ⟨_, List.getElem?_eq_getElem (by rw [← HM.out]; exact hlt)⟩
      obtain ⟨g, o, rfl, _⟩ := H2.out.range Kn.cells_len q c hc
      have HRG : Hid (∀ z, Below w.heap.size w z → z.rangeAt g (o + q * 34) c.cells) := fun z hz => (H2.out.below hz).range' Kn.cells_len q c hc
      have H32 : Hid (c.h.length = 32) := c.hh
      have hA1 : Hid (stepF asked acc c = (l.take (q + 1)).foldl (stepF asked) []) := by
        show _ = _
        rw [fold_snoc _ _ hc, ← hA.out]
      obtain ⟨D1, hD1⟩ : ∃ D, D = decide (c.h ∈ asked) := ⟨_, rfl⟩
      obtain ⟨D2, hD2⟩ : ∃ D, D = decide (c.h ∈ acc.map (·.h)) := ⟨_, rfl⟩
      have HD1 := Lib.hid hD1
      have HD2 := Lib.hid hD2
      have c1 : ∀ y, Below w.heap.size w y → Calls Try.prog 45 #[.slice hao asked.length hcp, .agg (c.h.map bv).toArray] y fun e w' => e = .returned (.bool D1) ∧ Below y.heap.size y w' := fun y hy => by rw [hD1]; exact Has15_calls _ asked c.h H32.out y (H1.out.below hy) (by omega)
      have c2 : ∀ y, Below wr.heap.size wr y → Calls Try.prog 45 #[.slice mao acc.length mc, .agg (c.h.map bv).toArray] y fun e w' => e = .returned (.bool D2) ∧ Below y.heap.size y w' := fun y hy => by rw [hD2]; exact Has15_calls _ _ c.h H32.out y ((hO.out.below hy).at) (by rw [List.length_map]; omega)
      clear hc hD1 hD2
      have hrg := HRG.out _ hBe.out
      go_wp2_with ((with_reducible show wpList _ _ _ (⟨some 22, _, _, _, _, _⟩ :: _) _ _); refine wpList_load_mid rfl 23 (.tmp 21) rfl g (o + q * 34) (by rfl) (c.h.map bv) _ (kn_h hrg) Try.underlying23 rfl (by rw [List.length_map, H32.out]; exact Try.sizeHash) ?_)
      refine (c1 _ hBe.out).mono ?_
      rintro e w5 ⟨rfl, b5⟩
      have hO5 := Lib.hid (hO.out.below b5)
      have hF5 := Lib.hid (hF.out.below b5)
      have hBe5 := Lib.hid (hBe.out.trans (b5.mono hBe.out.size))
      have c25 := c2 _ b5
      clear c1 c2 b5 hO hF hBe hrg
      cases D1 with
      | false =>
        have hA5 : Hid (acc = (l.take (q + 1)).foldl (stepF asked) []) := by
          show _ = _
          rw [← hA1.out, stepF, if_neg (fun e => of_decide_eq_false HD1.out.symm e.1)]
        clear c25
        go_wp2_with fail
        go_roundw
        case rel => exact ⟨q + 1, acc, by omega, by go_num, hA5, hO5, hF5, hBe5⟩
        case measure => simp [intOf]; omega
      | true =>
        have hrg := HRG.out _ hBe5.out
        go_wp2_with ((with_reducible show wpList _ _ _ (⟨some 30, _, _, _, _, _⟩ :: _) _ _); refine wpList_if (by rfl) (wp_load_mid 23 (.tmp 29) rfl g (o + q * 34) (by rfl) (c.h.map bv) _ (kn_h hrg) Try.underlying23 rfl (by rw [List.length_map, H32.out]; exact Try.sizeHash) ?_))
        refine c25.mono ?_
        rintro e w6 ⟨rfl, b6⟩
        have hO6 := Lib.hid (hO5.out.below b6)
        have hF6 := Lib.hid (hF5.out.below b6)
        have hBe6 := Lib.hid (hBe5.out.trans (b6.mono hBe5.out.size))
        clear b6 hO5 hF5 hBe5 hrg
        cases D2 with
        | true =>
          have hA5 : Hid (acc = (l.take (q + 1)).foldl (stepF asked) []) := by
            show _ = _
            rw [← hA1.out, stepF, if_neg (fun e => e.2 (of_decide_eq_true HD2.out.symm))]
          go_wp2_with fail
          go_roundw
          case rel => exact ⟨q + 1, acc, by omega, by go_num, hA5, hO6, hF6, hBe6⟩
          case measure => simp [intOf]; omega
        | false =>
          have hA5 : Hid (acc ++ [c] = (l.take (q + 1)).foldl (stepF asked) []) := by
            show _ = _
            rw [← hA1.out, stepF, if_pos ⟨of_decide_eq_true HD1.out.symm, of_decide_eq_false HD2.out.symm⟩]
          have hrg := HRG.out _ hBe6.out
          go_wp2_with (first | ((with_reducible show wpList _ _ _ (⟨some 39, _, _, _, _, _⟩ :: _) _ _); refine wpList_load_mid rfl 23 (.tmp 38) rfl g (o + q * 34) (by rfl) (c.h.map bv) _ (kn_h hrg) Try.underlying23 rfl (by rw [List.length_map, H32.out]; exact Try.sizeHash) ?_) | ((with_reducible show wpList _ _ _ (⟨some 40, _, _, _, _, _⟩ :: _) _ _); refine wpList_bsH rfl 34 23 (.tmp 39) rfl c.h H32.out (by rfl) Try.underlying34 Try.infoHash2 ?_; intro q8 w8 e8 s8 b8 n8; have hO7 := Lib.hid (hO6.out.below b8); have hF6b := Lib.hid (hF6.out.below b8); have hBe6b := Lib.hid (hBe6.out.trans (b8.mono hBe6.out.size)); clear b8 e8 s8 hO6 hF6 hBe6 hrg) | ((with_reducible show wpList _ _ _ (⟨some 41, _, _, _, _, _⟩ :: _) _ _); refine wpList_append_h19 rfl (.tmp 34) (.tmp 40) 34 rfl w.heap.size 23 Try.underlying34 ⟨rfl, Try.infoHash3⟩ _ (acc.map (·.h)) [c.h] (by rfl) hO7.out _ (by rfl) (hashes_one n8 H32.out (by omega)) (by simp only [List.length_map, List.length_singleton]; omega) hBe6b.out.size ?_; intro v9 w9 hk9 g9; have hm7 : Hid (HashOwn w9 w.heap.size 23 v9 ((acc ++ [c]).map (·.h))) := by { show HashOwn _ _ _ _ _; rw [List.map_append]; exact hk9 }; have hF7 := Lib.hid (hF6b.out.kept g9 (rows_apart hF6b.out hO7.out.2 (by decide))); have hBe7 := Lib.hid (hBe6b.out.grown g9 hBe6b.out.size (fun q e => (hO7.out.lt _ e).1)); clear hk9 g9 hF6b hBe6b n8 hO7; have hrg := HRG.out _ hBe7.out) | ((with_reducible show wpList _ _ _ (⟨some 46, _, _, _, _, _⟩ :: _) _ _); refine wpList_load_mid rfl 88 (.tmp 45) rfl g (o + q * 34) (by rfl) c.cells _ hrg Try.underlying88 rfl (kn_size c Try.sizeRKn) ?_; clear hrg) | ((with_reducible show wpList _ _ _ (⟨some 47, _, _, _, _, _⟩ :: _) _ _); refine wpList_bsV rfl 75 88 (.tmp 46) rfl (.agg c.cells.toArray) (by rfl) Try.underlying75 zKn 34 Try.infoRKn2 (kn_szv c) (by omega) (by omega) ?_; intro w8 s8 b8 n8; have hm8 := Lib.hid (hm7.out.below b8); have hF8 := Lib.hid (hF7.out.below b8); have hBe8 := Lib.hid (hBe7.out.trans (b8.mono hBe7.out.size)); clear b8 s8 hm7 hF7 hBe7) | ((with_reducible show wpList _ _ _ (⟨some 48, _, _, _, _, _⟩ :: _) _ _); refine wpList_append_R rfl (.tmp 42) (.tmp 47) 75 rfl Kn.cells_len Kn.one w.heap.size 88 zKn 56 Try.underlying75 Try.infoRKn zKn_size (by omega) (by omega) _ acc [c] (by rfl) hF8.out _ (by rfl) (RAt.blk n8) (by intro _ e; cases e) (by simp; omega) hBe8.out.size ?_; intro v10 w10 hk10 g10; have hm10 := Lib.hid (hm8.out.kept g10 (rows_apart hm8.out.2 hF8.out (by decide))); have hF10 := Lib.hid hk10; have hBe10 := Lib.hid (hBe8.out.grown g10 hBe8.out.size (fun q e => (hF8.out.lt _ e).1)); clear hk10 g10 hm8 hF8 hBe8 n8))
          go_roundw
          case rel => exact ⟨q + 1, acc ++ [c], by omega, by go_num, hA5, hm10, hF10, hBe10⟩
          case measure => simp [intOf]; omega
    · obtain rfl : q = m := by omega
      have hAl : acc = Fl := by
        rw [hA.out, HF.out, List.take_of_length_le (by have := HM.out; omega)]
      have hOF : Hid (KnOwn wr w.heap.size 88 (.slice oao acc.length oc) Fl) := by rw [← hAl]; exact hF.out
      clear hA hF hO hAl
      go_wp2_with fail
      refine (sorted_calls false _ Fl _ hOF.out.at hFl).mono ?_
      rintro e w3 ⟨v3, rfl, L, hp, hs, h3, b3⟩
      have HP := Lib.hid hp
      have HS : Hid (L.Pairwise fun x y => 0 ≤ cmpK y x) := hs
      have HB3 := Lib.hid (hBe.out.trans (b3.mono hBe.out.size))
      have H3 := Lib.hid (h3.low hBe.out.size)
      have hLn : L.length ≤ 1000 := by rw [hp.length_eq]; exact hFl
      obtain ⟨ao, cc, rfl⟩ := h3.slice
      obtain ⟨p, hpp⟩ : ∃ p, p = L.length := ⟨_, rfl⟩
      have HPP := Lib.hid hpp
      rw [← hpp] at hLn H3 ⊢
      have hBw := Lib.hid (Below.refl w3.heap.size w3)
      clear hp hs h3 b3 hOF hBe hpp
      go_wp2_with fail
      go_loopw [9, 10] (fun ov kv wr => ∃ (k : Nat) (acc : List (List UInt8)), k ≤ p ∧ kv = .int .i64 k ∧ Hid (acc = (L.take k).foldl stepG []) ∧ Hid (TxOwn wr w3.heap.size 9 ov acc) ∧ Hid (Below w3.heap.size w3 wr)) (fun _ kv _ => p - (intOf kv).toNat)
      case atStart => exact ⟨0, [], by omega, rfl, Lib.hid rfl, Lib.hid (ROwn.nil _ _ _), hBw⟩
      case round =>
        obtain ⟨k, acc, hk, rfl, hA, hO, hBe⟩ := hrel
        clear hBw
        obtain ⟨oao, oc, rfl⟩ := hO.out.slice
        have hal : acc.length ≤ k := by
          rw [hA.out]
          refine Nat.le_trans (stepG_len _ _) ?_
          simp; omega
        by_cases hlt3 : k < p
        · by_cases h64 : acc.length < 64
          · obtain ⟨c, hc⟩ : ∃ c, L[k]? = some c := ⟨_, List.getElem?_eq_getElem (by rw [← HPP.out]; exact hlt3)⟩
            have hL := (H3.out.below hBe.out).at
            obtain ⟨g, o, rfl, hrg⟩ := hL.range Kn.cells_len k c hc
            have hA1 : Hid (stepG acc c = (L.take (k + 1)).foldl stepG []) := by
              show _ = _
              rw [fold_snoc _ _ hc, ← hA.out]
            clear hc hL
            by_cases hs0 : c.s = []
            · have hA5 : Hid (acc = (L.take (k + 1)).foldl stepG []) := by
                show _ = _
                rw [← hA1.out, stepG, if_neg (by simp [hs0])]
              have hse : c.s.isEmpty = true := by rw [hs0]; rfl
              clear hs0 hA1 hA
              go_wp2_with ((with_reducible show wpList _ _ _ (⟨some 66, _, _, _, _, _⟩ :: _) _ _); refine wpList_load1 rfl 9 (.tmp 65) rfl g (o + k * 34 + 33) (by rfl) _ _ (kn_s hrg) Try.underlying9 rfl ?_)
              go_wp2_with fail
              go_roundw
              case rel => exact ⟨k + 1, acc, by omega, by go_num, hA5, hO, hBe⟩
              case measure => simp [intOf]; omega
            · have hse : c.s.isEmpty = false := by cases h : c.s with | nil => exact absurd h hs0 | cons _ _ => rfl
              by_cases hle : c.s.length ≤ 65536
              · have hA5 : Hid (acc ++ [c.s] = (L.take (k + 1)).foldl stepG []) := by
                  show _ = _
                  rw [← hA1.out, stepG, if_pos ⟨h64, hs0, hle⟩]
                clear hs0 hA1 hA
                go_wp2_with (first | ((with_reducible show wpList _ _ _ (⟨some 66, _, _, _, _, _⟩ :: _) _ _); refine wpList_load1 rfl 9 (.tmp 65) rfl g (o + k * 34 + 33) (by rfl) _ _ (kn_s hrg) Try.underlying9 rfl ?_) | ((with_reducible show wpList _ _ _ (⟨some 73, _, _, _, _, _⟩ :: _) _ _); refine wpList_if (by rfl) (wp_load1 9 (.tmp 72) rfl g (o + k * 34 + 33) (by rfl) _ _ (kn_s hrg) Try.underlying9 rfl ?_)) | ((with_reducible show wpList _ _ _ (⟨some 82, _, _, _, _, _⟩ :: _) _ _); refine wpList_load1 rfl 9 (.tmp 81) rfl g (o + k * 34 + 33) (by rfl) _ _ (kn_s hrg) Try.underlying9 rfl ?_) | ((with_reducible show wpList _ _ _ (⟨some 83, _, _, _, _, _⟩ :: _) _ _); refine wpList_bsV rfl 83 9 (.tmp 82) rfl (.string (str c.s)) (by rfl) Try.underlying83 (.string ⟨#[]⟩) 1 Try.infoTx2 (by rfl) (by omega) (by omega) ?_; intro w8 s8 b8 n8; have hO8 := Lib.hid (hO.out.below b8); have hBe8 := Lib.hid (hBe.out.trans (b8.mono hBe.out.size)); clear b8 s8 hO hBe hrg) | ((with_reducible show wpList _ _ _ (⟨some 84, _, _, _, _, _⟩ :: _) _ _); refine wpList_append_R rfl (.tmp 77) (.tmp 83) 83 rfl sCells_len sCells_one w3.heap.size 9 (.string ⟨#[]⟩) 16 Try.underlying83 Try.infoTx (by rfl) (by omega) (by omega) _ acc [c.s] (by rfl) hO8.out _ (by rfl) (RAt.blk n8) (by intro _ e; cases e) (by simp; omega) hBe8.out.size ?_; intro v9 w9 hk9 g9; have hO9 := Lib.hid hk9; have hBe9 := Lib.hid (hBe8.out.grown g9 hBe8.out.size (fun q e => (hO8.out.lt _ e).1)); clear hk9 g9 hO8 hBe8 n8))
                go_roundw
                case rel => exact ⟨k + 1, acc ++ [c.s], by omega, by go_num, hA5, hO9, hBe9⟩
                case measure => simp [intOf]; omega
              · have hA5 : Hid (acc = (L.take (k + 1)).foldl stepG []) := by
                  show _ = _
                  rw [← hA1.out, stepG, if_neg (by simp [hle])]
                clear hs0 hA1 hA
                go_wp2_with (first | ((with_reducible show wpList _ _ _ (⟨some 66, _, _, _, _, _⟩ :: _) _ _); refine wpList_load1 rfl 9 (.tmp 65) rfl g (o + k * 34 + 33) (by rfl) _ _ (kn_s hrg) Try.underlying9 rfl ?_) | ((with_reducible show wpList _ _ _ (⟨some 73, _, _, _, _, _⟩ :: _) _ _); refine wpList_if (by rfl) (wp_load1 9 (.tmp 72) rfl g (o + k * 34 + 33) (by rfl) _ _ (kn_s hrg) Try.underlying9 rfl ?_)))
                go_wp2_with fail
                go_roundw
                case rel => exact ⟨k + 1, acc, by omega, by go_num, hA5, hO, hBe⟩
                case measure => simp [intOf]; omega
          · have hAl : Hid (acc = L.foldl stepG []) := by
              show _ = _
              rw [stepG_end (i := k) (by have := HPP.out; omega) (by rw [← hA.out]; omega)]
              exact hA.out
            clear hA
            go_wp2_with fail
            go_returns
            have h3w := HB3.out.size
            have hOz := hO.out
            rw [hAl.out] at hOz ⊢
            exact ⟨_, rfl, L, HP.out, HS.out, hOz.low h3w, HB3.out.trans (hBe.out.mono h3w)⟩
        · obtain rfl : k = p := by omega
          have hAl : Hid (acc = L.foldl stepG []) := by
            show _ = _
            rw [hA.out, List.take_of_length_le (by have := HPP.out; omega)]
          clear hA
          go_wp2_with fail
          go_returns
          have h3w := HB3.out.size
          have hOz := hO.out
          rw [hAl.out] at hOz ⊢
          exact ⟨_, rfl, L, HP.out, HS.out, hOz.low h3w, HB3.out.trans (hBe.out.mono h3w)⟩
set_option maxHeartbeats 8000000 in
set_option maxRecDepth 100000 in
theorem SameTexts_calls (v1 v2 : Value) (l : List (List UInt8)) (w : World) (h1 : TxAt w v1 l) (h2 : TxAt w v2 l) (hn : l.length ≤ 1000000) :
    Calls Try.prog 42 #[v1, v2] w fun e w' => e = .returned (.bool true) ∧ Below w.heap.size w w' := by
  obtain ⟨xao, xc, rfl⟩ := h1.slice
  obtain ⟨yao, yc, rfl⟩ := h2.slice
  have H1 := Lib.hid h1
  have H2 := Lib.hid h2
  obtain ⟨n, hnn⟩ : ∃ n, n = l.length := ⟨_, rfl⟩
  have HN := Lib.hid hnn
  rw [← hnn] at hn H1 H2 ⊢
  have hb0 := Lib.hid (Below.refl w.heap.size w)
  clear h1 h2 hnn
  go_enter Try.func42, Try.ntmps42
  go_wp2_with fail
  go_loopw [5] (fun iv wr => ∃ (i : Nat), i ≤ n ∧ iv = .int .i64 i ∧ Hid (Below w.heap.size w wr)) (fun iv _ => n - (intOf iv).toNat)
  case atStart => exact ⟨0, by omega, rfl, hb0⟩
  case round =>
    obtain ⟨i, hi, rfl, hB⟩ := hrel
    clear hb0
    by_cases hlt : i < n
    · obtain ⟨q, hq⟩ : ∃ q, l[i]? = some q := ⟨_, List.getElem?_eq_getElem (by rw [← HN.out]; exact hlt)⟩
      obtain ⟨kg, ko, rfl, _⟩ := H1.out.range sCells_len i q hq
      obtain ⟨yg, yo, rfl, _⟩ := H2.out.range sCells_len i q hq
      have HKR : Hid (∀ x, Below w.heap.size w x → x.cell? ⟨kg, ko + i, none⟩ = some (.string (str q))) := fun x hx => by have := (H1.out.below hx).range' sCells_len i q hq 0 _ rfl; rwa [Nat.mul_one] at this
      have HYR : Hid (∀ x, Below w.heap.size w x → x.cell? ⟨yg, yo + i, none⟩ = some (.string (str q))) := fun x hx => by have := (H2.out.below hx).range' sCells_len i q hq 0 _ rfl; rwa [Nat.mul_one] at this
      have hb3 := hB.out
      clear hq hB
      go_wp2_with fail
      refine wp_region_held_drew (S := fun x => Below w.heap.size w x) (by kernel_rfl) (below_drewN hb3 1) (fun hSq1 => ?_)
      refine wpAnyH_take (i := 0) (v := .slice (some ⟨kg, ko, none⟩) n xc) rfl (by kernel_rfl) (by kernel_rfl) (by kernel_rfl) (fun _ _ _ h => h) (Or.inl ⟨by rfl, fun x hx => by go_simp⟩) hSq1 ?_
      simp only [Act.put, List.getElem_toArray, List.getElem_cons_zero, List.getElem_cons_succ, List.setIfInBounds_toArray, List.set_cons_zero, List.set_cons_succ]
      refine wpAnyH_take (i := 1) (v := .int .i64 i) rfl (by kernel_rfl) (by kernel_rfl) (by kernel_rfl) (fun _ _ _ h => h) (Or.inl ⟨by rfl, fun x hx => by go_simp⟩) hSq1 ?_
      simp only [Act.put, List.getElem_toArray, List.getElem_cons_zero, List.getElem_cons_succ, List.setIfInBounds_toArray, List.set_cons_zero, List.set_cons_succ]
      refine wpAnyH_take (i := 2) (v := .pointer (some ⟨kg, ko + i, none⟩)) rfl (by kernel_rfl) (by kernel_rfl) (by kernel_rfl) (fun _ _ _ h => h) (Or.inl ⟨by rfl, fun x hx => by go_simp⟩) hSq1 ?_
      simp only [Act.put, List.getElem_toArray, List.getElem_cons_zero, List.getElem_cons_succ, List.setIfInBounds_toArray, List.set_cons_zero, List.set_cons_succ]
      refine wpAnyH_take (i := 3) (v := .string (str q)) rfl (by kernel_rfl) (by kernel_rfl) (by kernel_rfl) (fun _ _ _ h => h) (Or.inl ⟨by rfl, fun x hx => by have hc := HKR.out x hx; go_simp⟩) hSq1 ?_
      simp only [Act.put, List.getElem_toArray, List.getElem_cons_zero, List.getElem_cons_succ, List.setIfInBounds_toArray, List.set_cons_zero, List.set_cons_succ]
      refine wpAnyH_take (i := 4) (v := .slice (some ⟨yg, yo, none⟩) n yc) rfl (by kernel_rfl) (by kernel_rfl) (by kernel_rfl) (fun _ _ _ h => h) (Or.inl ⟨by rfl, fun x hx => by go_simp⟩) hSq1 ?_
      simp only [Act.put, List.getElem_toArray, List.getElem_cons_zero, List.getElem_cons_succ, List.setIfInBounds_toArray, List.set_cons_zero, List.set_cons_succ]
      refine wpAnyH_take (i := 5) (v := .int .i64 i) rfl (by kernel_rfl) (by kernel_rfl) (by kernel_rfl) (fun _ _ _ h => h) (Or.inl ⟨by rfl, fun x hx => by go_simp⟩) hSq1 ?_
      simp only [Act.put, List.getElem_toArray, List.getElem_cons_zero, List.getElem_cons_succ, List.setIfInBounds_toArray, List.set_cons_zero, List.set_cons_succ]
      refine wpAnyH_take (i := 6) (v := .pointer (some ⟨yg, yo + i, none⟩)) rfl (by kernel_rfl) (by kernel_rfl) (by kernel_rfl) (fun _ _ _ h => h) (Or.inl ⟨by rfl, fun x hx => by go_simp⟩) hSq1 ?_
      simp only [Act.put, List.getElem_toArray, List.getElem_cons_zero, List.getElem_cons_succ, List.setIfInBounds_toArray, List.set_cons_zero, List.set_cons_succ]
      refine wpAnyH_take (i := 7) (v := .string (str q)) rfl (by kernel_rfl) (by kernel_rfl) (by kernel_rfl) (fun _ _ _ h => h) (Or.inl ⟨by rfl, fun x hx => by have hc := HYR.out x hx; go_simp⟩) hSq1 ?_
      simp only [Act.put, List.getElem_toArray, List.getElem_cons_zero, List.getElem_cons_succ, List.setIfInBounds_toArray, List.set_cons_zero, List.set_cons_succ]
      refine wpAnyH_take (i := 8) (v := .bool false) rfl (by kernel_rfl) (by kernel_rfl) (by kernel_rfl) (fun _ _ _ h => h) (Or.inl ⟨by rfl, fun x hx => by go_simp⟩) hSq1 ?_
      simp only [Act.put, List.getElem_toArray, List.getElem_cons_zero, List.getElem_cons_succ, List.setIfInBounds_toArray, List.set_cons_zero, List.set_cons_succ]
      refine wpAnyH_done (by kernel_rfl) ?_ _
      have HB7 := Lib.hid hSq1
      clear hSq1
      go_wp2_with fail
      go_roundw
      case rel => exact ⟨i + 1, by omega, by go_num, HB7⟩
      case measure => simp [intOf]; omega
    · obtain rfl : i = n := by omega
      go_wp2_with fail
      go_returns
      exact ⟨rfl, hB.out⟩
end Go.Proofs.Ytlomofcnknpciaa
