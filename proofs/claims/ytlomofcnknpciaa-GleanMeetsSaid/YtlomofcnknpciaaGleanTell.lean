/-
  glean.Tell.
-/
import Derived.Test.YtlomofcnknpciaaGleanMk
import Derived.Test.YtlomofcnknpciaaGleanRef
import Derived.WalkLawsBesides
import Derived.Laws.AppendOwnNone
import Derived.Outline
import Derived.Handy
set_option linter.unusedSimpArgs false
set_option linter.unusedVariables false
namespace Go.Proofs.Ytlomofcnknpciaa
open Go.RowKit

theorem wp_lookV {P : Program} {k : TypeId} {ok : List UInt8 → Prop} {enc : List UInt8 → Value} {w : World} {o : Oper} {a : Act} {K : Act → World → Prop} {Q : Exit → Act → World → Prop} (mk : MKey P k ok enc) (m x : Operand) (t e : TypeId) (ho : o.op = .lookup t m x false) (ht : P.underlying t = some (.map k e)) (z : Value) (hz : (zeroValue e).run P w = .ok z w) (b n : Nat) (look : List UInt8 → Option Value)
    (hm : a.eval m = .map (some b)) (h : MapIs ok enc w b n look) (y : List UInt8) (hy : ok y) (hx : a.eval x = enc y) (u : Value) (hu : (look y).getD z = u) (hK : K (a.put o.dst u) w) : o.wp P a w K Q :=
  wp_look mk m x t e ho ht z hz b n look hm h y hy hx (by rw [hu]; exact hK)
theorem thereLook_get (l : List HsT) (x : HsT) : (thereLook l x).getD (.bool false) = .bool (decide (x ∈ l)) := by
  unfold thereLook
  by_cases e : x ∈ l
  · rw [if_pos e, decide_eq_true e]; rfl
  · rw [if_neg e, decide_eq_false e]; rfl
set_option maxHeartbeats 16000000 in
set_option maxRecDepth 100000 in
theorem Tell_calls (base : Nat) (v : Value) (l : List Kn) (w : World) (h : KnOwn w base 164 v l) (hn : l.length ≤ 100000) :
    Calls Try.prog 40 #[v] w fun e w' => ∃ v' : Value, e = .returned v' ∧ ∃ L : List Kn, L.Perm (l.filter fun c => !c.s.isEmpty) ∧ (L.Pairwise fun x y => 0 ≤ cmpD y x) ∧ ∃ R : List HsT, HashOwn w' w.heap.size 23 v' R ∧ Rises R ∧ (∀ x, x ∈ R ↔ x ∈ (L.map (·.h)).foldl stepT []) ∧ Below w.heap.size w w' := by
  have H := Lib.hid h
  have hfl : (l.filter fun h => !h.s.isEmpty).length ≤ 100000 := Nat.le_trans (List.length_filter_le _ _) hn
  obtain ⟨Fl, hF⟩ : ∃ Fl, Fl = l.filter fun h => !h.s.isEmpty := ⟨_, rfl⟩
  rw [← hF] at hfl ⊢
  have HF := Lib.hid hF
  clear h hF
  go_enter Try.func40, Try.ntmps40
  go_wp2_with fail
  refine (CloneK_calls base v l w H.out (by omega)).mono ?_
  rintro e w1 ⟨v1, rfl, h1, b1⟩
  have H1 := Lib.hid h1
  have HB1 := Lib.hid b1
  have HV1 : Hid (∀ q, v1.ownBlock = some q → w.heap.size ≤ q) := fun q hq => (h1.lt q hq).1
  clear h1 b1 H
  go_wp2_with fail
  refine (DeleteK_calls Tell1Asks _ v1 l _ H1.out (by omega) trivial (fun _ _ _ _ => trivial)).mono ?_
  rintro e w2 ⟨v2, rfl, h2, g2, _, hq2⟩
  have HB2 : Hid (Below w.heap.size w w2) := HB1.out.grown g2 HB1.out.size (fun q e => HV1.out q e)
  have HV2 : Hid (∀ q, v2.ownBlock = some q → w.heap.size ≤ q) := fun q hq => HV1.out q (hq2 q hq)
  rw [← HF.out] at h2
  have H2 := Lib.hid h2
  clear h2 g2 hq2 H1 HB1 HV1
  go_wp2_with fail
  refine (SortK_calls cmpD_swo (enters_of Try.func98 (by kernel_rfl) rfl) Tell2_calls _ v2 Fl _ H2.out (by omega)).mono ?_
  rintro e w3 ⟨rfl, L, hp, hs, h3, g3⟩
  have HP := Lib.hid hp
  have HS := Lib.hid hs
  have HB3 : Hid (Below w.heap.size w w3) := HB2.out.grown g3 HB2.out.size (fun q e => HV2.out q e)
  have H3 := Lib.hid h3
  have hLn : L.length ≤ 100000 := by rw [hp.length_eq]; exact hfl
  obtain ⟨ao, cc, rfl⟩ := h3.slice
  obtain ⟨n, hnn⟩ : ∃ n, n = L.length := ⟨_, rfl⟩
  have HN := Lib.hid hnn
  rw [← hnn] at hLn H3
  rw [← hnn]
  clear hp hs h3 g3 H2 HB2 HV2 hnn
  go_wp2_with ((with_reducible show wpList _ _ _ (⟨some 13, _, _, _, _, _⟩ :: _) _ _); refine wpList_makeM rfl 150 rfl hashOk hashEnc ?_; intro w4 s4 b4 m4; clear s4)
  obtain ⟨mb, hmb⟩ : ∃ x, x = w3.heap.size := ⟨_, rfl⟩
  have HMB : Hid (mb = w3.heap.size) := hmb
  rw [← hmb] at m4 b4 ⊢
  have hM0 : Hid (MapIs hashOk hashEnc w4 mb 0 (thereLook [])) := m4.congr (fun x _ => by simp [thereLook])
  have hBe0 : Hid (Below mb w3 w4) := b4
  clear m4 b4 hmb
  go_loopw [4, 16] (fun ov kv wr => ∃ (k : Nat) (acc : List HsT), k ≤ n ∧ kv = .int .i64 k ∧ Hid (acc = ((L.take k).map (·.h)).foldl stepT []) ∧ Hid (MapIs hashOk hashEnc wr mb k (thereLook acc)) ∧ Hid (HashOwn wr (mb + 1) 23 ov acc) ∧ Hid (Below mb w3 wr)) (fun _ kv _ => n - (intOf kv).toNat)
  case atStart => exact ⟨0, [], by omega, rfl, Lib.hid rfl, hM0, Lib.hid (HashOwn.nil _ _ _), hBe0⟩
  case round =>
    obtain ⟨k, acc, hk, rfl, hA, hM, hO, hBe⟩ := hrel
    clear hM0 hBe0
    obtain ⟨oao, oc, rfl⟩ := hO.out.slice
    have hal : acc.length ≤ k := by
      rw [hA.out]
      refine Nat.le_trans (stepT_len _ _) ?_
      simp; omega
    by_cases hlt : k < n
    · obtain ⟨c, hc⟩ : ∃ c, L[k]? = some c := ⟨_, List.getElem?_eq_getElem (by rw [← HN.out]; exact hlt)⟩
      have hL := (H3.out.below (HMB.out ▸ hBe.out)).at
      obtain ⟨g, o, rfl, hrg⟩ := hL.range Kn.cells_len k c hc
      have H32 : Hid (c.h.length = 32) := c.hh
      have hmw : mb < wr.heap.size := hM.out.lt
      have hA1 : Hid (stepT acc c.h = ((L.take (k + 1)).map (·.h)).foldl stepT []) := by
        show _ = _
        rw [hA.out, List.take_add_one, hc, List.map_append, List.foldl_append]; rfl
      clear hc hL
      by_cases h256 : acc.length < 256
      · by_cases hin : c.h ∈ acc
        · have hA5 : Hid (acc = ((L.take (k + 1)).map (·.h)).foldl stepT []) := by
            show _ = _
            rw [← hA1.out, stepT, if_neg (by simp [hin])]
          have HIN := Lib.hid (decide_eq_true hin)
          clear hin hA1 hA
          go_wp2_with (first | ((with_reducible show wpList _ _ _ (⟨some 19, _, _, _, _, _⟩ :: _) _ _); refine wpList_load_mid rfl 164 (.tmp 18) rfl g (o + k * 34) (by rfl) c.cells _ hrg Try.underlying164 rfl (kn_size c Try.sizeKn) ?_) | ((with_reducible show wpList _ _ _ (⟨some 7, _, _, _, _, _⟩ :: _) _ _); refine wpList_allocZ rfl 164 rfl _ Try.zeroKn ?_; intro wa sa ba na) | ((with_reducible show wpList _ _ _ (⟨none, Op.store _ (.tmp 7) _, _, _, _, _⟩ :: _) _ _); refine wpList_storeBlk rfl 164 (.tmp 7) (.tmp 19) rfl (wr.heap.size) c.cells.toArray (by rfl) (by rfl) _ _ na (kn_sizeA c Try.sizeKn) (by rw [zKnA_size, List.size_toArray, c.cells_len]) (kn_all c) ?_; intro w5 hB5 g5; have bb5 := below_new ba g5 (Nat.le_refl _) ba.size; clear ba na g5 sa; have hM5 := Lib.hid (hM.out.below bb5); have hO5 := Lib.hid (hO.out.below bb5); have hBe5 := Lib.hid (hBe.out.trans (bb5.mono (by have := hBe.out.size; have := HMB.out; omega))); clear bb5 hM hO hBe hrg) | ((with_reducible show wpList _ _ _ (⟨some 26, _, _, _, _, _⟩ :: _) _ _); refine wpList_if (by rfl) (wp_load_mid 23 (.tmp 25) rfl wr.heap.size 0 (by rfl) (c.h.map bv) _ (kn_h (kn_blk hB5)) Try.underlying23 rfl (by rw [List.length_map, H32.out]; exact Try.sizeHash) ?_)) | ((with_reducible show wpList _ _ _ (⟨some 27, _, _, _, _, _⟩ :: _) _ _); refine wpList_if (by rfl) (wp_lookV Try.hashKey (.tmp 24) (.tmp 26) 150 4 rfl Try.underlying150 (.bool false) (Try.zeroBool _) mb _ _ (by rfl) hM5.out c.h H32.out (by rfl) (.bool true) (by rw [thereLook_get, HIN.out]) ?_)))
          go_wp2_with fail
          go_roundw
          case rel => exact ⟨k + 1, _, by omega, by go_num, hA5, Lib.hid (hM5.out.mono (by omega)), hO5, hBe5⟩
          case measure => simp [intOf]; omega
        · have hA5 : Hid (acc ++ [c.h] = ((L.take (k + 1)).map (·.h)).foldl stepT []) := by
            show _ = _
            rw [← hA1.out, stepT, if_pos ⟨h256, hin⟩]
          have HIN := Lib.hid (decide_eq_false hin)
          clear hin hA1 hA
          go_wp2_with (first | ((with_reducible show wpList _ _ _ (⟨some 19, _, _, _, _, _⟩ :: _) _ _); refine wpList_load_mid rfl 164 (.tmp 18) rfl g (o + k * 34) (by rfl) c.cells _ hrg Try.underlying164 rfl (kn_size c Try.sizeKn) ?_) | ((with_reducible show wpList _ _ _ (⟨some 7, _, _, _, _, _⟩ :: _) _ _); refine wpList_allocZ rfl 164 rfl _ Try.zeroKn ?_; intro wa sa ba na) | ((with_reducible show wpList _ _ _ (⟨none, Op.store _ (.tmp 7) _, _, _, _, _⟩ :: _) _ _); refine wpList_storeBlk rfl 164 (.tmp 7) (.tmp 19) rfl (wr.heap.size) c.cells.toArray (by rfl) (by rfl) _ _ na (kn_sizeA c Try.sizeKn) (by rw [zKnA_size, List.size_toArray, c.cells_len]) (kn_all c) ?_; intro w5 hB5 g5; have bb5 := below_new ba g5 (Nat.le_refl _) ba.size; clear ba na g5 sa; have hM5 := Lib.hid (hM.out.below bb5); have hO5 := Lib.hid (hO.out.below bb5); have hBe5 := Lib.hid (hBe.out.trans (bb5.mono (by have := hBe.out.size; have := HMB.out; omega))); clear bb5 hM hO hBe hrg) | ((with_reducible show wpList _ _ _ (⟨some 26, _, _, _, _, _⟩ :: _) _ _); refine wpList_if (by rfl) (wp_load_mid 23 (.tmp 25) rfl wr.heap.size 0 (by rfl) (c.h.map bv) _ (kn_h (kn_blk hB5)) Try.underlying23 rfl (by rw [List.length_map, H32.out]; exact Try.sizeHash) ?_)) | ((with_reducible show wpList _ _ _ (⟨some 27, _, _, _, _, _⟩ :: _) _ _); refine wpList_if (by rfl) (wp_lookV Try.hashKey (.tmp 24) (.tmp 26) 150 4 rfl Try.underlying150 (.bool false) (Try.zeroBool _) mb _ _ (by rfl) hM5.out c.h H32.out (by rfl) (.bool false) (by rw [thereLook_get, HIN.out]) ?_)) | ((with_reducible show wpList _ _ _ (⟨some 32, _, _, _, _, _⟩ :: _) _ _); refine wpList_load_mid rfl 23 (.tmp 31) rfl wr.heap.size 0 (by rfl) (c.h.map bv) _ (kn_h (kn_blk hB5)) Try.underlying23 rfl (by rw [List.length_map, H32.out]; exact Try.sizeHash) ?_) | ((with_reducible show wpList _ _ _ (⟨none, Op.mapUpdate _ _ _ _, _, _, _, _⟩ :: _) _ _); refine wpList_upd rfl Try.hashKey (.tmp 30) (.tmp 32) (.const (.bool true)) 150 4 rfl Try.underlying150 mb _ _ (by rfl) hM5.out c.h H32.out (by rfl) (.bool true) (by rfl) ?_; intro w7 hm7 g7; have hB7 := hB5.grown g7 (by simp; omega); have hO7 := Lib.hid (hO5.out.kept g7 (.inr (fun e => by have := (hO5.out.lt _ e).1; omega))); have hBe7 := Lib.hid (hBe5.out.grown g7 (by have := hBe5.out.size; have := HMB.out; omega) (fun q e => by cases e; exact Nat.le_refl _)); clear g7 hB5 hO5 hBe5 hM5) | ((with_reducible show wpList _ _ _ (⟨some 35, _, _, _, _, _⟩ :: _) _ _); refine wpList_load_mid rfl 23 (.tmp 34) rfl wr.heap.size 0 (by rfl) (c.h.map bv) _ (kn_h (kn_blk hB7)) Try.underlying23 rfl (by rw [List.length_map, H32.out]; exact Try.sizeHash) ?_) | ((with_reducible show wpList _ _ _ (⟨some 36, _, _, _, _, _⟩ :: _) _ _); refine wpList_bsH rfl 34 23 (.tmp 35) rfl c.h H32.out (by rfl) Try.underlying34 Try.infoHash2 ?_; intro q8 w8 e8 s8 b8 n8; have hm8 := hm7.below b8; have hO8 := Lib.hid (hO7.out.below b8); have hBe8 := Lib.hid (hBe7.out.trans (b8.mono (by have := hBe7.out.size; have := HMB.out; omega))); have hml8 := hm8.lt; clear b8 e8 s8 hm7 hO7 hBe7 hB7) | ((with_reducible show wpList _ _ _ (⟨some 37, _, _, _, _, _⟩ :: _) _ _); refine wpList_append_h19 rfl (.tmp 33) (.tmp 36) 34 rfl (mb + 1) 23 Try.underlying34 ⟨rfl, Try.infoHash3⟩ _ acc [c.h] (by rfl) hO8.out _ (by rfl) (hashes_one n8 H32.out (by omega)) (by simp; omega) (by omega) ?_; intro v9 w9 hk9 g9; have hM9 : Hid (MapIs hashOk hashEnc w9 mb (k + 1) (thereLook (acc ++ [c.h]))) := (hm8.kept g9 (fun e => by have := (hO8.out.lt _ e.symm).1; omega)).congr (fun x _ => by unfold thereLook; by_cases e : x = c.h <;> simp [e]); have hO9 := Lib.hid hk9; have hBe9 := Lib.hid (hBe8.out.grown g9 (by have := hBe8.out.size; have := HMB.out; omega) (fun q e => by have := (hO8.out.lt _ e).1; omega)); clear hk9 g9 hm8 hO8 hBe8 n8))
          go_roundw
          case rel => exact ⟨k + 1, acc ++ [c.h], by omega, by go_num, hA5, hM9, hO9, hBe9⟩
          case measure => simp [intOf]; omega
      · have hA5 : Hid (acc = ((L.take (k + 1)).map (·.h)).foldl stepT []) := by
          show _ = _
          rw [← hA1.out, stepT, if_neg (by omega)]
        clear hA1 hA
        go_wp2_with (first | ((with_reducible show wpList _ _ _ (⟨some 19, _, _, _, _, _⟩ :: _) _ _); refine wpList_load_mid rfl 164 (.tmp 18) rfl g (o + k * 34) (by rfl) c.cells _ hrg Try.underlying164 rfl (kn_size c Try.sizeKn) ?_) | ((with_reducible show wpList _ _ _ (⟨some 7, _, _, _, _, _⟩ :: _) _ _); refine wpList_allocZ rfl 164 rfl _ Try.zeroKn ?_; intro wa sa ba na) | ((with_reducible show wpList _ _ _ (⟨none, Op.store _ (.tmp 7) _, _, _, _, _⟩ :: _) _ _); refine wpList_storeBlk rfl 164 (.tmp 7) (.tmp 19) rfl (wr.heap.size) c.cells.toArray (by rfl) (by rfl) _ _ na (kn_sizeA c Try.sizeKn) (by rw [zKnA_size, List.size_toArray, c.cells_len]) (kn_all c) ?_; intro w5 hB5 g5; have bb5 := below_new ba g5 (Nat.le_refl _) ba.size; clear ba na g5 sa; have hM5 := Lib.hid (hM.out.below bb5); have hO5 := Lib.hid (hO.out.below bb5); have hBe5 := Lib.hid (hBe.out.trans (bb5.mono (by have := hBe.out.size; have := HMB.out; omega))); clear bb5 hM hO hBe hrg))
        go_wp2_with fail
        go_roundw
        case rel => exact ⟨k + 1, _, by omega, by go_num, hA5, Lib.hid (hM5.out.mono (by omega)), hO5, hBe5⟩
        case measure => simp [intOf]; omega
    · obtain rfl : k = n := by omega
      have hAl : Hid (acc = (L.map (·.h)).foldl stepT []) := by
        show _ = _
        rw [hA.out, List.take_of_length_le (by have := HN.out; omega)]
      clear hA hM
      go_wp2_with fail
      refine (rising_calls _ _ acc _ hO.out (by omega)).mono ?_
      rintro e w7 ⟨v7, R, rfl, h7, hri, hme, g7⟩
      have hV7 := Lib.hid h7
      have HRI := Lib.hid hri
      have HME : Hid (∀ x, x ∈ R ↔ x ∈ (L.map (·.h)).foldl stepT []) := fun x => by rw [hme x, hAl.out]
      have hB7 : Hid (Below mb w3 w7) := hBe.out.grown g7 (by have := hBe.out.size; have := HMB.out; omega) (fun q e => by have := (hO.out.lt _ e).1; omega)
      clear h7 hri hme g7 hBe hO
      go_wp2_with fail
      go_returns
      have h3w := HB3.out.size
      have hm3 := HMB.out
      exact ⟨_, rfl, L, HP.out, HS.out, R, hV7.out.low (by omega), HRI.out, HME.out, HB3.out.trans (hB7.out.mono (by omega))⟩
end Go.Proofs.Ytlomofcnknpciaa
