/-
  glean.Give.
-/
import Derived.Test.YtlomofcnknpciaaGleanTell
import Derived.WalkLawsBesides
import Derived.Laws.AppendOwnNone
import Derived.Outline
import Derived.Handy
set_option linter.unusedSimpArgs false
set_option linter.unusedVariables false
namespace Go.Proofs.Ytlomofcnknpciaa
open Go.RowKit

theorem giveLook_get (asked : List HsT) (acc : List Kn) (x : HsT) : (giveLook asked acc x).getD (.bool false) = .bool (decide (x ∈ asked ∧ x ∉ acc.map (·.h))) := by
  unfold giveLook
  by_cases e : x ∈ asked ∧ x ∉ acc.map (·.h)
  · rw [if_pos e, decide_eq_true e]; rfl
  · rw [if_neg e, decide_eq_false e]; rfl
theorem giveLook_del (asked : List HsT) (acc : List Kn) (c : Kn) (x : HsT) : (if x = c.h then none else giveLook asked acc x) = giveLook asked (acc ++ [c]) x := by
  unfold giveLook
  by_cases e : x = c.h
  · simp [e]
  · simp [e]
theorem kn_s' {w : World} {q : Nat} {c : Kn} {t : TypeId} (h : Blk w q c.cells.toArray t) : w.cell? ⟨q, 33, none⟩ = some (.string (str c.s)) := by
  have := kn_s (kn_blk h)
  rwa [Nat.zero_add] at this
set_option maxHeartbeats 16000000 in
set_option maxRecDepth 100000 in
theorem Give_calls (v1 v2 : Value) (asked : List HsT) (l : List Kn) (w : World) (h1 : HashesAt w v1 asked) (h2 : KnAt w v2 l) (hn1 : asked.length ≤ 100000) (hn : l.length ≤ 100000) :
    Calls Try.prog 43 #[v1, v2] w fun e w' => ∃ v' : Value, e = .returned v' ∧ ∃ L : List Kn, L.Perm (l.foldl (stepF asked) []) ∧ (L.Pairwise fun x y => 0 ≤ cmpK y x) ∧ TxOwn w' w.heap.size 9 v' (L.foldl stepG []) ∧ Below w.heap.size w w' := by
  obtain ⟨hao, hc, rfl, _⟩ := h1.slice
  obtain ⟨kao, kc, rfl⟩ := h2.slice
  have H1 := Lib.hid h1
  have H2 := Lib.hid h2
  obtain ⟨n, hnn⟩ : ∃ n, n = asked.length := ⟨_, rfl⟩
  have HN := Lib.hid hnn
  rw [← hnn] at hn1 H1 ⊢
  obtain ⟨m, hmm⟩ : ∃ m, m = l.length := ⟨_, rfl⟩
  have HM := Lib.hid hmm
  rw [← hmm] at hn H2 ⊢
  obtain ⟨Fl, hF⟩ : ∃ Fl, Fl = l.foldl (stepF asked) [] := ⟨_, rfl⟩
  have HF := Lib.hid hF
  have hFl : Fl.length ≤ 100000 := by
    rw [hF]
    refine Nat.le_trans (stepF_len _ _ _) ?_
    simp; omega
  rw [← hF]
  clear h1 h2 hnn hmm hF
  go_enter Try.func43, Try.ntmps43
  go_wp2_with ((with_reducible show wpList _ _ _ (⟨some 14, _, _, _, _, _⟩ :: _) _ _); refine wpList_makeM rfl 150 rfl hashOk hashEnc ?_; intro w1 s1 b1 m1; clear s1)
  obtain ⟨mb, hmb⟩ : ∃ x, x = w.heap.size := ⟨_, rfl⟩
  have HMB : Hid (mb = w.heap.size) := hmb
  rw [← hmb] at m1 b1 ⊢
  have hM0 : Hid (MapIs hashOk hashEnc w1 mb 0 (thereLook (asked.take 0))) := m1.congr (fun x _ => by simp [thereLook])
  have hBe0 : Hid (Below mb w w1) := b1
  clear m1 b1 hmb
  go_loopw [17] (fun kv wr => ∃ (k : Nat), k ≤ n ∧ kv = .int .i64 k ∧ Hid (MapIs hashOk hashEnc wr mb k (thereLook (asked.take k))) ∧ Hid (Below mb w wr)) (fun kv _ => n - (intOf kv).toNat)
  case atStart => exact ⟨0, by omega, rfl, hM0, hBe0⟩
  case round =>
    obtain ⟨k, hk, rfl, hSk, hBk⟩ := hrel
    clear hM0 hBe0
    by_cases hlt : k < n
    · obtain ⟨h, hh⟩ : ∃ h, asked[k]? = some h := ⟨_, List.getElem?_eq_getElem (by rw [← HN.out]; exact hlt)⟩
      have hL := H1.out.below (HMB.out ▸ hBk.out)
      obtain ⟨g, o, rfl, hrg⟩ := hL.range k h hh
      have H32 : Hid (h.length = 32) := hL.1 h (List.mem_of_getElem? hh)
      have HTK : Hid (asked.take (k + 1) = asked.take k ++ [h]) := by show _ = _; rw [List.take_add_one, hh]; rfl
      have hmw : mb < wr.heap.size := hSk.out.lt
      clear hh hL
      go_wp2_with (first | ((with_reducible show wpList _ _ _ (⟨some 20, _, _, _, _, _⟩ :: _) _ _); refine wpList_load_mid rfl 23 (.tmp 19) rfl g (o + k * 32) (by rfl) (h.map bv) _ hrg Try.underlying23 rfl (by rw [List.length_map, H32.out]; exact Try.sizeHash) ?_) | ((with_reducible show wpList _ _ _ (⟨some 7, _, _, _, _, _⟩ :: _) _ _); refine wpList_allocZ rfl 23 rfl _ Try.zeroHash ?_; intro wa sa ba na) | ((with_reducible show wpList _ _ _ (⟨none, Op.store _ (.tmp 7) _, _, _, _, _⟩ :: _) _ _); refine wpList_storeBlk rfl 23 (.tmp 7) (.tmp 20) rfl (wr.heap.size) ((h.map bv).toArray) (by rfl) (by rfl) _ _ na (by rw [bv_size, H32.out]; exact Try.sizeHash) (by rw [bv_size, H32.out, Z32_size]) (bv_all _) ?_; intro w5 hB5 g5; have bb5 := below_new ba g5 (Nat.le_refl _) ba.size; have hS5 := Lib.hid (hSk.out.below bb5); have hBB5 := Lib.hid (hBk.out.trans (bb5.mono (by omega))); clear bb5 ba na g5 sa hSk hBk hrg) | ((with_reducible show wpList _ _ _ (⟨some 22, _, _, _, _, _⟩ :: _) _ _); refine wpList_load_mid rfl 23 (.tmp 7) rfl (wr.heap.size) 0 (by rfl) (h.map bv) _ (blk_rangeP hB5) Try.underlying23 rfl (by rw [List.length_map, H32.out]; exact Try.sizeHash) ?_) | ((with_reducible show wpList _ _ _ (⟨none, Op.mapUpdate _ _ _ _, _, _, _, _⟩ :: _) _ _); refine wpList_upd rfl Try.hashKey (.tmp 21) (.tmp 22) (.const (.bool true)) 150 4 rfl Try.underlying150 mb _ _ (by rfl) hS5.out h H32.out (by rfl) (.bool true) (by rfl) ?_; intro w7 hm7 g7))
      have hS7 : Hid (MapIs hashOk hashEnc w7 mb (k + 1) (thereLook (asked.take (k + 1)))) := hm7.congr (fun x _ => by
        rw [HTK.out]
        unfold thereLook
        by_cases e : x = h
        · simp [e]
        · simp [e])
      have hB7 := Lib.hid (hBB5.out.grown g7 (by have := hBB5.out.size; have := HMB.out; omega) (fun q e => by cases e; exact Nat.le_refl _))
      clear hm7 g7 hS5 hBB5 hB5
      go_wp2_with fail
      go_roundw
      case rel => exact ⟨k + 1, by omega, by go_num, hS7, hB7⟩
      case measure => simp [intOf]; omega
    · obtain rfl : k = n := by omega
      obtain ⟨z, rfl⟩ : ∃ z, z = wr := ⟨_, rfl⟩
      have hM1 : Hid (MapIs hashOk hashEnc z mb k (giveLook asked [])) := by
        have := hSk.out
        rw [List.take_of_length_le (by have := HN.out; omega)] at this
        exact this.congr (fun x _ => by simp [giveLook, thereLook])
      have hlz : mb < z.heap.size := hSk.out.lt
      clear hSk
      go_wp2_with fail
      go_loopw [8, 26] (fun lv kv wr => ∃ (q : Nat) (acc : List Kn), q ≤ m ∧ kv = .int .i64 q ∧ Hid (acc = (l.take q).foldl (stepF asked) []) ∧ Hid (MapIs hashOk hashEnc wr mb k (giveLook asked acc)) ∧ Hid (KnOwn wr (mb + 1) 164 lv acc) ∧ Hid (Below mb w wr)) (fun _ kv _ => m - (intOf kv).toNat)
      case atStart => exact ⟨0, [], by omega, rfl, Lib.hid rfl, hM1, Lib.hid (ROwn.nil _ _ _), hBk⟩
      case round =>
        obtain ⟨q, acc, hq, rfl, hA, hM, hO, hBe⟩ := hrel
        clear hM1 hBk
        obtain ⟨oao, oc, rfl⟩ := hO.out.slice
        have hal : acc.length ≤ q := by
          rw [hA.out]
          refine Nat.le_trans (stepF_len _ _ _) ?_
          simp; omega
        by_cases hlt2 : q < m
        · obtain ⟨c, hc⟩ : ∃ c, l[q]? = some c := ⟨_, List.getElem?_eq_getElem (by rw [← HM.out]; exact hlt2)⟩
          have hL := H2.out.below (HMB.out ▸ hBe.out)
          obtain ⟨g, o, rfl, hrg⟩ := hL.range Kn.cells_len q c hc
          have H32 : Hid (c.h.length = 32) := c.hh
          have hmw : mb < wr.heap.size := hM.out.lt
          have hA1 : Hid (stepF asked acc c = (l.take (q + 1)).foldl (stepF asked) []) := by
            show _ = _
            rw [fold_snoc _ _ hc, ← hA.out]
          clear hc hL
          by_cases hin : c.h ∈ asked ∧ c.h ∉ acc.map (·.h)
          · have hA5 : Hid (acc ++ [c] = (l.take (q + 1)).foldl (stepF asked) []) := by
              show _ = _
              rw [← hA1.out, stepF, if_pos hin]
            have HIN := Lib.hid (decide_eq_true hin)
            clear hin hA1 hA
            go_wp2_with (first | ((with_reducible show wpList _ _ _ (⟨some 29, _, _, _, _, _⟩ :: _) _ _); refine wpList_load_mid rfl 164 (.tmp 28) rfl g (o + q * 34) (by rfl) c.cells _ hrg Try.underlying164 rfl (kn_size c Try.sizeKn) ?_) | ((with_reducible show wpList _ _ _ (⟨some 10, _, _, _, _, _⟩ :: _) _ _); refine wpList_allocZ rfl 164 rfl _ Try.zeroKn ?_; intro wa sa ba na) | ((with_reducible show wpList _ _ _ (⟨none, Op.store _ (.tmp 10) _, _, _, _, _⟩ :: _) _ _); refine wpList_storeBlk rfl 164 (.tmp 10) (.tmp 29) rfl (wr.heap.size) c.cells.toArray (by rfl) (by rfl) _ _ na (kn_sizeA c Try.sizeKn) (by rw [zKnA_size, List.size_toArray, c.cells_len]) (kn_all c) ?_; intro w5 hB5 g5; have bb5 := below_new ba g5 (Nat.le_refl _) ba.size; clear ba na g5 sa; have hM5 := Lib.hid (hM.out.below bb5); have hO5 := Lib.hid (hO.out.below bb5); have hBe5 := Lib.hid (hBe.out.trans (bb5.mono (by have := hBe.out.size; have := HMB.out; omega))); clear bb5 hM hO hBe hrg) | ((with_reducible show wpList _ _ _ (⟨some 32, _, _, _, _, _⟩ :: _) _ _); refine wpList_load_mid rfl 23 (.tmp 31) rfl wr.heap.size 0 (by rfl) (c.h.map bv) _ (kn_h (kn_blk hB5)) Try.underlying23 rfl (by rw [List.length_map, H32.out]; exact Try.sizeHash) ?_) | ((with_reducible show wpList _ _ _ (⟨some 33, _, _, _, _, _⟩ :: _) _ _); refine wpList_lookV rfl Try.hashKey (.tmp 30) (.tmp 32) 150 4 rfl Try.underlying150 (.bool false) (Try.zeroBool _) mb _ _ (by rfl) hM5.out c.h H32.out (by rfl) (.bool true) (by rw [giveLook_get, HIN.out]) ?_) | ((with_reducible show wpList _ _ _ (⟨some 36, _, _, _, _, _⟩ :: _) _ _); refine wpList_load_mid rfl 23 (.tmp 35) rfl wr.heap.size 0 (by rfl) (c.h.map bv) _ (kn_h (kn_blk hB5)) Try.underlying23 rfl (by rw [List.length_map, H32.out]; exact Try.sizeHash) ?_) | ((with_reducible show wpList _ _ _ (⟨none, Op.call _, _, _, _, _⟩ :: _) _ _); refine wpList_del rfl Try.hashKey (.tmp 34) (.tmp 36) 150 4 rfl Try.underlying150 mb _ _ (by rfl) hM5.out c.h H32.out (by rfl) ?_; intro w7 hm7 g7; have hB7 := hB5.grown g7 (by simp; omega); have hO7 := Lib.hid (hO5.out.kept g7 (.inr (fun e => by have := (hO5.out.lt _ e).1; omega))); have hBe7 := Lib.hid (hBe5.out.grown g7 (by have := hBe5.out.size; have := HMB.out; omega) (fun q e => by cases e; exact Nat.le_refl _)); clear g7 hB5 hO5 hBe5 hM5) | ((with_reducible show wpList _ _ _ (⟨some 38, _, _, _, _, _⟩ :: _) _ _); refine wpList_load_mid rfl 164 (.tmp 10) rfl wr.heap.size 0 (by rfl) c.cells _ (kn_blk hB7) Try.underlying164 rfl (kn_size c Try.sizeKn) ?_) | ((with_reducible show wpList _ _ _ (⟨some 39, _, _, _, _, _⟩ :: _) _ _); refine wpList_bsV rfl 76 164 (.tmp 38) rfl (.agg c.cells.toArray) (by rfl) Try.underlying76 zKn 34 Try.infoKn2 (kn_szv c) (by omega) (by omega) ?_; intro w8 s8 b8 n8; have hm8 := hm7.below b8; have hO8 := Lib.hid (hO7.out.below b8); have hBe8 := Lib.hid (hBe7.out.trans (b8.mono (by have := hBe7.out.size; have := HMB.out; omega))); have hml8 := hm8.lt; clear b8 s8 hm7 hO7 hBe7 hB7) | ((with_reducible show wpList _ _ _ (⟨some 40, _, _, _, _, _⟩ :: _) _ _); refine wpList_append_R rfl (.tmp 37) (.tmp 39) 76 rfl Kn.cells_len Kn.one (mb + 1) 164 zKn 56 Try.underlying76 Try.infoKn zKn_size (by omega) (by omega) _ acc [c] (by rfl) hO8.out _ (by rfl) (RAt.blk n8) (by intro _ e; cases e) (by simp; omega) (by omega) ?_; intro v9 w9 hk9 g9; have hM9 : Hid (MapIs hashOk hashEnc w9 mb k (giveLook asked (acc ++ [c]))) := (hm8.kept g9 (fun e => by have := (hO8.out.lt _ e.symm).1; omega)).congr (fun x _ => giveLook_del asked acc c x); have hO9 := Lib.hid hk9; have hBe9 := Lib.hid (hBe8.out.grown g9 (by have := hBe8.out.size; have := HMB.out; omega) (fun q e => by have := (hO8.out.lt _ e).1; omega)); clear hk9 g9 hm8 hO8 hBe8 n8))
            go_roundw
            case rel => exact ⟨q + 1, acc ++ [c], by omega, by go_num, hA5, hM9, hO9, hBe9⟩
            case measure => simp [intOf]; omega
          · have hA5 : Hid (acc = (l.take (q + 1)).foldl (stepF asked) []) := by
              show _ = _
              rw [← hA1.out, stepF, if_neg hin]
            have HIN := Lib.hid (decide_eq_false hin)
            clear hin hA1 hA
            go_wp2_with (first | ((with_reducible show wpList _ _ _ (⟨some 29, _, _, _, _, _⟩ :: _) _ _); refine wpList_load_mid rfl 164 (.tmp 28) rfl g (o + q * 34) (by rfl) c.cells _ hrg Try.underlying164 rfl (kn_size c Try.sizeKn) ?_) | ((with_reducible show wpList _ _ _ (⟨some 10, _, _, _, _, _⟩ :: _) _ _); refine wpList_allocZ rfl 164 rfl _ Try.zeroKn ?_; intro wa sa ba na) | ((with_reducible show wpList _ _ _ (⟨none, Op.store _ (.tmp 10) _, _, _, _, _⟩ :: _) _ _); refine wpList_storeBlk rfl 164 (.tmp 10) (.tmp 29) rfl (wr.heap.size) c.cells.toArray (by rfl) (by rfl) _ _ na (kn_sizeA c Try.sizeKn) (by rw [zKnA_size, List.size_toArray, c.cells_len]) (kn_all c) ?_; intro w5 hB5 g5; have bb5 := below_new ba g5 (Nat.le_refl _) ba.size; clear ba na g5 sa; have hM5 := Lib.hid (hM.out.below bb5); have hO5 := Lib.hid (hO.out.below bb5); have hBe5 := Lib.hid (hBe.out.trans (bb5.mono (by have := hBe.out.size; have := HMB.out; omega))); clear bb5 hM hO hBe hrg) | ((with_reducible show wpList _ _ _ (⟨some 32, _, _, _, _, _⟩ :: _) _ _); refine wpList_load_mid rfl 23 (.tmp 31) rfl wr.heap.size 0 (by rfl) (c.h.map bv) _ (kn_h (kn_blk hB5)) Try.underlying23 rfl (by rw [List.length_map, H32.out]; exact Try.sizeHash) ?_) | ((with_reducible show wpList _ _ _ (⟨some 33, _, _, _, _, _⟩ :: _) _ _); refine wpList_lookV rfl Try.hashKey (.tmp 30) (.tmp 32) 150 4 rfl Try.underlying150 (.bool false) (Try.zeroBool _) mb _ _ (by rfl) hM5.out c.h H32.out (by rfl) (.bool false) (by rw [giveLook_get, HIN.out]) ?_))
            go_roundw
            case rel => exact ⟨q + 1, _, by omega, by go_num, hA5, hM5, hO5, hBe5⟩
            case measure => simp [intOf]; omega
        · obtain rfl : q = m := by omega
          have hAl : Hid (acc = Fl) := by
            show _ = _
            rw [hA.out, HF.out, List.take_of_length_le (by have := HM.out; omega)]
          have hOF : Hid (KnOwn wr (mb + 1) 164 (.slice oao acc.length oc) Fl) := by
            have := hO.out
            rw [hAl.out] at this ⊢
            exact this
          clear hA hM hO
          go_wp2_with fail
          refine (SortK_calls cmpK_swo (enters_of Try.func99 (by kernel_rfl) rfl) order_calls _ _ Fl _ hOF.out (by omega)).mono ?_
          rintro e w3 ⟨rfl, L, hp, hs, h3, g3⟩
          have HP := Lib.hid hp
          have HS := Lib.hid hs
          have HB3 : Hid (Below mb w w3) := hBe.out.grown g3 (by have := hBe.out.size; have := HMB.out; omega) (fun q e => by have := (hOF.out.lt _ e).1; omega)
          have H3 := Lib.hid h3
          have hLn : L.length ≤ 100000 := by rw [hp.length_eq]; exact hFl
          obtain ⟨ao, cc, hv3⟩ := h3.slice
          rw [hv3]
          rw [hv3] at H3
          obtain ⟨p, hpp⟩ : ∃ p, p = L.length := ⟨_, rfl⟩
          have HPP := Lib.hid hpp
          rw [← hpp] at hLn H3 ⊢
          have hBw : Hid (Below w3.heap.size w3 w3) := Below.refl _ _
          clear hp hs h3 g3 hOF hBe hpp hv3 hAl
          go_wp2_with fail
          go_loopw [11, 46] (fun ov kv wr => ∃ (k : Nat) (acc : List (List UInt8)), k ≤ p ∧ kv = .int .i64 k ∧ Hid (acc = (L.take k).foldl stepG []) ∧ Hid (TxOwn wr w3.heap.size 9 ov acc) ∧ Hid (Below w3.heap.size w3 wr)) (fun _ kv _ => p - (intOf kv).toNat)
          case atStart => exact ⟨0, [], by omega, rfl, Lib.hid rfl, Lib.hid (ROwn.nil _ _ _), hBw⟩
          case round =>
            obtain ⟨k, acc, hk, rfl, hA, hO, hBe⟩ := hrel
            clear hBw
            obtain ⟨oao, oc, rfl⟩ := hO.out.slice
            have hal : acc.length ≤ k := by
              rw [hA.out]
              refine Nat.le_trans (stepG_len _ _) ?_
              simp; omega
            by_cases hlt3 : k < p
            · obtain ⟨c, hc⟩ : ∃ c, L[k]? = some c := ⟨_, List.getElem?_eq_getElem (by rw [← HPP.out]; exact hlt3)⟩
              have hL := (H3.out.below hBe.out).at
              obtain ⟨g, o, rfl, hrg⟩ := hL.range Kn.cells_len k c hc
              have hwz := hBe.out.size
              have hA1 : Hid (stepG acc c = (L.take (k + 1)).foldl stepG []) := by
                show _ = _
                rw [fold_snoc _ _ hc, ← hA.out]
              clear hc hL
              by_cases h64 : acc.length < 64
              · by_cases hs0 : c.s = []
                · have hA5 : Hid (acc = (L.take (k + 1)).foldl stepG []) := by
                    show _ = _
                    rw [← hA1.out, stepG, if_neg (by simp [hs0])]
                  have hse : c.s.isEmpty = true := by rw [hs0]; rfl
                  clear hs0 hA1 hA
                  go_wp2_with (first | ((with_reducible show wpList _ _ _ (⟨some 49, _, _, _, _, _⟩ :: _) _ _); refine wpList_load_mid rfl 164 (.tmp 48) rfl g (o + k * 34) (by rfl) c.cells _ hrg Try.underlying164 rfl (kn_size c Try.sizeKn) ?_) | ((with_reducible show wpList _ _ _ (⟨some 13, _, _, _, _, _⟩ :: _) _ _); refine wpList_allocZ rfl 164 rfl _ Try.zeroKn ?_; intro wa sa ba na) | ((with_reducible show wpList _ _ _ (⟨none, Op.store _ (.tmp 13) _, _, _, _, _⟩ :: _) _ _); refine wpList_storeBlk rfl 164 (.tmp 13) (.tmp 49) rfl (wr.heap.size) c.cells.toArray (by rfl) (by rfl) _ _ na (kn_sizeA c Try.sizeKn) (by rw [zKnA_size, List.size_toArray, c.cells_len]) (kn_all c) ?_; intro w5 hB5 g5; have bb5 := below_new ba g5 (Nat.le_refl _) ba.size; clear ba na g5 sa; have hO5 := Lib.hid (hO.out.below bb5); have hBe5 := Lib.hid (hBe.out.trans (bb5.mono (by have := hBe.out.size; omega))); clear bb5 hO hBe hrg) | ((with_reducible show wpList _ _ _ (⟨some 55, _, _, _, _, _⟩ :: _) _ _); refine wpList_if (by rfl) (wp_load1 9 (.tmp 54) rfl wr.heap.size 33 (by rfl) _ _ (kn_s' hB5) Try.underlying9 rfl ?_)))
                  go_roundw
                  case rel => exact ⟨k + 1, _, by omega, by go_num, hA5, hO5, hBe5⟩
                  case measure => simp [intOf]; omega
                · have hse : c.s.isEmpty = false := by cases h : c.s with | nil => exact absurd h hs0 | cons _ _ => rfl
                  by_cases hle : c.s.length ≤ 65536
                  · have hA5 : Hid (acc ++ [c.s] = (L.take (k + 1)).foldl stepG []) := by
                      show _ = _
                      rw [← hA1.out, stepG, if_pos ⟨h64, hs0, hle⟩]
                    clear hs0 hA1 hA
                    go_wp2_with (first | ((with_reducible show wpList _ _ _ (⟨some 49, _, _, _, _, _⟩ :: _) _ _); refine wpList_load_mid rfl 164 (.tmp 48) rfl g (o + k * 34) (by rfl) c.cells _ hrg Try.underlying164 rfl (kn_size c Try.sizeKn) ?_) | ((with_reducible show wpList _ _ _ (⟨some 13, _, _, _, _, _⟩ :: _) _ _); refine wpList_allocZ rfl 164 rfl _ Try.zeroKn ?_; intro wa sa ba na) | ((with_reducible show wpList _ _ _ (⟨none, Op.store _ (.tmp 13) _, _, _, _, _⟩ :: _) _ _); refine wpList_storeBlk rfl 164 (.tmp 13) (.tmp 49) rfl (wr.heap.size) c.cells.toArray (by rfl) (by rfl) _ _ na (kn_sizeA c Try.sizeKn) (by rw [zKnA_size, List.size_toArray, c.cells_len]) (kn_all c) ?_; intro w5 hB5 g5; have bb5 := below_new ba g5 (Nat.le_refl _) ba.size; clear ba na g5 sa; have hO5 := Lib.hid (hO.out.below bb5); have hBe5 := Lib.hid (hBe.out.trans (bb5.mono (by have := hBe.out.size; omega))); clear bb5 hO hBe hrg) | ((with_reducible show wpList _ _ _ (⟨some 55, _, _, _, _, _⟩ :: _) _ _); refine wpList_if (by rfl) (wp_load1 9 (.tmp 54) rfl wr.heap.size 33 (by rfl) _ _ (kn_s' hB5) Try.underlying9 rfl ?_)) | ((with_reducible show wpList _ _ _ (⟨some 60, _, _, _, _, _⟩ :: _) _ _); refine wpList_if (by rfl) (wp_load1 9 (.tmp 59) rfl wr.heap.size 33 (by rfl) _ _ (kn_s' hB5) Try.underlying9 rfl ?_)) | ((with_reducible show wpList _ _ _ (⟨some 66, _, _, _, _, _⟩ :: _) _ _); refine wpList_load1 rfl 9 (.tmp 65) rfl wr.heap.size 33 (by rfl) _ _ (kn_s' hB5) Try.underlying9 rfl ?_) | ((with_reducible show wpList _ _ _ (⟨some 67, _, _, _, _, _⟩ :: _) _ _); refine wpList_bsV rfl 83 9 (.tmp 66) rfl (.string (str c.s)) (by rfl) Try.underlying83 (.string ⟨#[]⟩) 1 Try.infoTx2 (by rfl) (by omega) (by omega) ?_; intro w8 s8 b8 n8; have hO8 := Lib.hid (hO5.out.below b8); have hBe8 := Lib.hid (hBe5.out.trans (b8.mono hBe5.out.size)); clear b8 s8 hO5 hBe5 hB5) | ((with_reducible show wpList _ _ _ (⟨some 68, _, _, _, _, _⟩ :: _) _ _); refine wpList_append_R rfl (.tmp 64) (.tmp 67) 83 rfl sCells_len sCells_one w3.heap.size 9 (.string ⟨#[]⟩) 16 Try.underlying83 Try.infoTx (by rfl) (by omega) (by omega) _ acc [c.s] (by rfl) hO8.out _ (by rfl) (RAt.blk n8) (by intro _ e; cases e) (by simp; omega) (by have := hBe8.out.size; omega) ?_; intro v9 w9 hk9 g9; have hO9 := Lib.hid hk9; have hBe9 := Lib.hid (hBe8.out.grown g9 hBe8.out.size (fun q e => (hO8.out.lt _ e).1)); clear hk9 g9 hO8 hBe8 n8))
                    go_roundw
                    case rel => exact ⟨k + 1, acc ++ [c.s], by omega, by go_num, hA5, hO9, hBe9⟩
                    case measure => simp [intOf]; omega
                  · have hA5 : Hid (acc = (L.take (k + 1)).foldl stepG []) := by
                      show _ = _
                      rw [← hA1.out, stepG, if_neg (by simp [hle])]
                    clear hs0 hA1 hA
                    go_wp2_with (first | ((with_reducible show wpList _ _ _ (⟨some 49, _, _, _, _, _⟩ :: _) _ _); refine wpList_load_mid rfl 164 (.tmp 48) rfl g (o + k * 34) (by rfl) c.cells _ hrg Try.underlying164 rfl (kn_size c Try.sizeKn) ?_) | ((with_reducible show wpList _ _ _ (⟨some 13, _, _, _, _, _⟩ :: _) _ _); refine wpList_allocZ rfl 164 rfl _ Try.zeroKn ?_; intro wa sa ba na) | ((with_reducible show wpList _ _ _ (⟨none, Op.store _ (.tmp 13) _, _, _, _, _⟩ :: _) _ _); refine wpList_storeBlk rfl 164 (.tmp 13) (.tmp 49) rfl (wr.heap.size) c.cells.toArray (by rfl) (by rfl) _ _ na (kn_sizeA c Try.sizeKn) (by rw [zKnA_size, List.size_toArray, c.cells_len]) (kn_all c) ?_; intro w5 hB5 g5; have bb5 := below_new ba g5 (Nat.le_refl _) ba.size; clear ba na g5 sa; have hO5 := Lib.hid (hO.out.below bb5); have hBe5 := Lib.hid (hBe.out.trans (bb5.mono (by have := hBe.out.size; omega))); clear bb5 hO hBe hrg) | ((with_reducible show wpList _ _ _ (⟨some 55, _, _, _, _, _⟩ :: _) _ _); refine wpList_if (by rfl) (wp_load1 9 (.tmp 54) rfl wr.heap.size 33 (by rfl) _ _ (kn_s' hB5) Try.underlying9 rfl ?_)) | ((with_reducible show wpList _ _ _ (⟨some 60, _, _, _, _, _⟩ :: _) _ _); refine wpList_if (by rfl) (wp_load1 9 (.tmp 59) rfl wr.heap.size 33 (by rfl) _ _ (kn_s' hB5) Try.underlying9 rfl ?_)))
                    go_roundw
                    case rel => exact ⟨k + 1, _, by omega, by go_num, hA5, hO5, hBe5⟩
                    case measure => simp [intOf]; omega
              · have hA5 : Hid (acc = (L.take (k + 1)).foldl stepG []) := by
                  show _ = _
                  rw [← hA1.out, stepG, if_neg (by simp [h64])]
                clear hA1 hA
                go_wp2_with (first | ((with_reducible show wpList _ _ _ (⟨some 49, _, _, _, _, _⟩ :: _) _ _); refine wpList_load_mid rfl 164 (.tmp 48) rfl g (o + k * 34) (by rfl) c.cells _ hrg Try.underlying164 rfl (kn_size c Try.sizeKn) ?_) | ((with_reducible show wpList _ _ _ (⟨some 13, _, _, _, _, _⟩ :: _) _ _); refine wpList_allocZ rfl 164 rfl _ Try.zeroKn ?_; intro wa sa ba na) | ((with_reducible show wpList _ _ _ (⟨none, Op.store _ (.tmp 13) _, _, _, _, _⟩ :: _) _ _); refine wpList_storeBlk rfl 164 (.tmp 13) (.tmp 49) rfl (wr.heap.size) c.cells.toArray (by rfl) (by rfl) _ _ na (kn_sizeA c Try.sizeKn) (by rw [zKnA_size, List.size_toArray, c.cells_len]) (kn_all c) ?_; intro w5 hB5 g5; have bb5 := below_new ba g5 (Nat.le_refl _) ba.size; clear ba na g5 sa; have hO5 := Lib.hid (hO.out.below bb5); have hBe5 := Lib.hid (hBe.out.trans (bb5.mono (by have := hBe.out.size; omega))); clear bb5 hO hBe hrg))
                go_roundw
                case rel => exact ⟨k + 1, _, by omega, by go_num, hA5, hO5, hBe5⟩
                case measure => simp [intOf]; omega
            · obtain rfl : k = p := by omega
              have hAl : Hid (acc = L.foldl stepG []) := by
                show _ = _
                rw [hA.out, List.take_of_length_le (by have := HPP.out; omega)]
              go_wp2_with fail
              go_returns
              have h3w := HB3.out.size
              have hm3 := HMB.out
              have hOz := hO.out
              rw [hAl.out] at hOz ⊢
              exact ⟨_, rfl, L, HP.out, HS.out, hOz.low (by omega), (HMB.out ▸ HB3.out).trans (hBe.out.mono (by omega))⟩
end Go.Proofs.Ytlomofcnknpciaa
