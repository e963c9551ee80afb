/-
  glean.rising and glean.Want.
-/
import Derived.Test.YtlomofcnknpciaaGleanComp
import Derived.Test.YtlomofcnknpciaaGleanSort
import Derived.Test.YtlomofcnknpciaaBookClone
import Derived.Test.YtlomofcnknpciaaBookRep
set_option linter.unusedSimpArgs false
set_option linter.unusedVariables false
namespace Go.Proofs.Ytlomofcnknpciaa
open Go.RowKit

theorem compT_mem {l : List HsT} (hs : l.Pairwise fun x y => ¬ cmpT y x < 0) (h32 : ∀ x ∈ l, x.length = 32) : ∀ j, j ≤ l.length → Rises (compT l j) ∧ ∀ x, x ∈ compT l j ↔ x ∈ l.take j
  | 0, _ => ⟨List.Pairwise.nil, fun x => by simp [compT]⟩
  | j + 1, hj => by
    obtain ⟨ih1, ih2⟩ := compT_mem hs h32 j (by omega)
    obtain ⟨x, hx⟩ : ∃ x, l[j]? = some x := ⟨_, List.getElem?_eq_getElem (by omega)⟩
    have htk : l.take (j + 1) = l.take j ++ [x] := by rw [List.take_add_one, hx]; rfl
    have hle : ∀ (a b : Nat) (y z : HsT), a < b → l[a]? = some y → l[b]? = some z → ¬ cmpT z y < 0 := fun a b y z hab hy hz => by
      obtain ⟨ha, rfl⟩ := List.getElem?_eq_some_iff.1 hy
      obtain ⟨hb, rfl⟩ := List.getElem?_eq_some_iff.1 hz
      exact List.pairwise_iff_getElem.1 hs a b ha hb hab
    by_cases hsk : 0 < j ∧ l[j - 1]? = some x
    · rw [compT_skip hsk.1 hx hsk.2, htk]
      refine ⟨ih1, fun y => ?_⟩
      rw [ih2, List.mem_append, List.mem_singleton]
      refine ⟨.inl, fun h => h.elim id (fun e => ?_)⟩
      rw [e]
      exact List.mem_of_getElem? (i := j - 1) (by rw [List.getElem?_take_of_lt (by omega)]; exact hsk.2)
    · rw [compT_new hx hsk, htk]
      refine ⟨List.pairwise_append.2 ⟨ih1, List.pairwise_singleton _ _, fun y hy z hz => ?_⟩, fun y => by rw [List.mem_append, List.mem_append, ih2]⟩
      obtain rfl := List.mem_singleton.1 hz
      obtain ⟨i, hi⟩ := List.getElem?_of_mem ((ih2 y).1 hy)
      have hij : i < j := by have := (List.getElem?_eq_some_iff.1 hi).1; rw [List.length_take] at this; omega
      rw [List.getElem?_take_of_lt hij] at hi
      have h1 := hle i j y z hij hi hx
      have hy32 := h32 y (List.mem_of_getElem? hi)
      have hz32 := h32 z (List.mem_of_getElem? hx)
      have e1 := cmpT_swap y z
      by_cases hc : cmpT y z < 0
      · exact hc
      · exfalso
        have e2 : y = z := cmpT_eq _ _ (by rw [hy32, hz32]) (by omega)
        subst e2
        -- all between are the same
        obtain ⟨p, hp⟩ : ∃ p, l[j - 1]? = some p := ⟨_, List.getElem?_eq_getElem (by omega)⟩
        have hp32 := h32 p (List.mem_of_getElem? hp)
        have e3 := cmpT_swap p y
        have h3 := hle (j - 1) j p y (by omega) hp hx
        have h4 : ¬ cmpT p y < 0 := by
          by_cases hij2 : i = j - 1
          · subst hij2
            rw [hi] at hp
            obtain rfl := Option.some.inj hp
            rw [cmpT_self]; omega
          · exact hle i (j - 1) y p (by omega) hi hp
        have : p = y := cmpT_eq _ _ (by rw [hp32, hy32]) (by omega)
        exact hsk ⟨by omega, by rw [hp, this]⟩
theorem compT_all {l : List HsT} (hs : l.Pairwise fun x y => ¬ cmpT y x < 0) (h32 : ∀ x ∈ l, x.length = 32) : Rises (compT l l.length) ∧ ∀ x, x ∈ compT l l.length ↔ x ∈ l := by
  have := compT_mem hs h32 l.length (Nat.le_refl _)
  rwa [List.take_length] at this
/-- What a map of names says. -/
def thereLook (hv : List HsT) (x : HsT) : Option Value := if x ∈ hv then some (.bool true) else none
def WantS (pm mb N : Nat) (hv : List HsT) (y : World) : Prop := Blk y pm #[.map (some mb)] 150 ∧ MapIs hashOk hashEnc y mb N (thereLook hv)
set_option maxHeartbeats 4000000 in
set_option maxRecDepth 100000 in
theorem rising_calls (base : Nat) (v : Value) (l : List HsT) (w : World) (hl : HashOwn w base 23 v l) (hn : l.length ≤ 1000000) :
    Calls Try.prog 89 #[v] w fun e w' => ∃ v' R, e = .returned v' ∧ HashOwn w' base 23 v' R ∧ Rises R ∧ (∀ x, x ∈ R ↔ x ∈ l) ∧ w.grownBy w' v.ownBlock := by
  have HL := Lib.hid hl
  clear hl
  go_enter Try.func89, Try.ntmps89
  go_wp2_with fail
  refine (SortB_calls base v l w HL.out hn).mono ?_
  rintro e w1 ⟨rfl, R, hp, hs, hR, g1⟩
  have HR := Lib.hid hR
  have HG := Lib.hid g1
  have HP := Lib.hid hp
  have HS := Lib.hid hs
  have hRn : R.length ≤ 1000000 := by rw [hp.length_eq]; exact hn
  clear hp hs hR g1
  go_wp2_with fail
  refine (Compact_calls base v R w1 HR.out hRn).mono ?_
  rintro e w2 ⟨v2, rfl, h2, g2, _⟩
  have H2 := Lib.hid h2
  have HG2 := Lib.hid (grown_trans HG.out g2)
  obtain ⟨a1, a2⟩ := compT_all (HS.out.imp fun h => by omega) HR.out.1
  have HA := Lib.hid a1
  have HB : Hid (∀ x, x ∈ compT R R.length ↔ x ∈ l) := fun x => (a2 x).trans HP.out.mem_iff
  clear h2 g2 a1 a2
  go_wp2_with fail
  go_returns
  exact ⟨_, _, rfl, H2.out, HA.out, HB.out, HG2.out⟩
set_option maxHeartbeats 4000000 in
set_option maxRecDepth 100000 in
theorem WantCl_calls (pm mb N : Nat) (hv : List HsT) (h : HsT) (y : World) (hh : h.length = 32) (hS : WantS pm mb N hv y) :
    Calls Try.prog 92 #[.agg (h.map bv).toArray, .pointer (some ⟨pm, 0, none⟩)] y fun e w' => e = .returned (.bool (decide (h ∈ hv))) ∧ Below y.heap.size y w' := by
  have HH := Lib.hid hh
  have hb0 : Below y.heap.size y (y.alloc (.cells (h.map bv).toArray 23)) := below_alloc1 _ _
  have hA0 : Blk (y.alloc (.cells (h.map bv).toArray 23)) y.heap.size (h.map bv).toArray 23 := Blk.new _ _ _
  have hP0 := hS.1.below hb0 hS.1.lt
  have hM0 := Lib.hid (hS.2.below hb0)
  have HLK : Hid ((thereLook hv h).getD (.bool false) = .bool (decide (h ∈ hv))) := by
    show _ = _
    unfold thereLook
    by_cases e : h ∈ hv
    · rw [if_pos e, decide_eq_true e]; rfl
    · rw [if_neg e, decide_eq_false e]; rfl
  obtain ⟨d, hd⟩ : ∃ d, d = decide (h ∈ hv) := ⟨_, rfl⟩
  rw [← hd] at HLK ⊢
  clear hh hS hd
  go_enter Try.func92, Try.ntmps92
  go_wp2_with (first | ((with_reducible show wpList _ _ _ (⟨some 4, _, _, _, _, _⟩ :: _) _ _); refine wpList_load1 rfl 150 (.tmp 1) rfl pm 0 (by rfl) (.map (some mb)) _ (hP0.cell 0 _ rfl) Try.underlying150 rfl ?_) | ((with_reducible show wpList _ _ _ (⟨some 5, _, _, _, _, _⟩ :: _) _ _); refine wpList_load_mid rfl 23 (.tmp 2) rfl (y.heap.size) 0 (by rfl) (h.map bv) _ (blk_rangeP hA0) Try.underlying23 rfl (by rw [List.length_map, HH.out]; exact Try.sizeHash) ?_) | ((with_reducible show wpList _ _ _ (⟨some 6, _, _, _, _, _⟩ :: _) _ _); refine wpList_lookV rfl Try.hashKey (.tmp 4) (.tmp 5) 150 4 rfl Try.underlying150 (.bool false) (Try.zeroBool _) mb _ _ (by rfl) hM0.out h HH.out (by rfl) (.bool d) HLK.out ?_))
  go_returns
  exact ⟨rfl, hb0⟩
theorem WantAsks (pm mb N : Nat) (hv : List HsT) : Asks (WantS pm mb N hv) (fun h => decide (h ∈ hv)) pm :=
  ⟨fun y y' h b => ⟨h.1.below b h.1.lt, h.2.below b⟩, fun h y hh hS => WantCl_calls pm mb N hv h y hh hS⟩
theorem WantS.grown {pm mb N base n : Nat} {hv l : List HsT} {v : Value} {y y' w0 : World} (h : WantS pm mb N hv y) (g : y.grownBy y' v.ownBlock) (hne : ∀ q, v.ownBlock = some q → q ≠ pm ∧ q ≠ mb) : WantS pm mb N hv y' :=
  ⟨h.1.grown g (fun e => (hne pm e.symm).1 rfl), h.2.kept g (fun e => (hne mb e.symm).2 rfl)⟩
theorem HashOwn.low {w : World} {b1 b2 : Nat} {e : TypeId} {v : Value} {l : List HsT} (h : HashOwn w b1 e v l) (hb : b2 ≤ b1) : HashOwn w b2 e v l := by
  refine ⟨h.1, h.2.1, ?_⟩
  rcases h.2.2 with h0 | ⟨g, cap, cur, e1, h1, h2⟩
  · exact .inl h0
  · exact .inr ⟨g, cap, cur, e1, Nat.le_trans hb h1, h2⟩
theorem HashOwn.cut {w : World} {base : Nat} {e : TypeId} {ao : Option Addr} {c : Nat} {l : List HsT} (h : HashOwn w base e (.slice ao l.length c) l) (M : Nat) (hM : M ≤ l.length) : HashesAt w (.slice ao M c) (l.take M) := by
  have hl : (l.take M).length = M := by rw [List.length_take]; omega
  rcases h.at.2 with ⟨h1, ao', h2⟩ | ⟨g, o, c', h2, h3, h4, h5⟩
  · refine ⟨fun x hx => h.1 x (List.mem_of_mem_take hx), .inl ⟨by rw [h1]; simp, ?_⟩⟩
    injection h2 with e1 e2 e3
    have : M = 0 := by omega
    exact ⟨ao, by rw [this, e3]⟩
  · injection h2 with e1 e2 e3
    subst e1 e3
    refine ⟨fun x hx => h.1 x (List.mem_of_mem_take hx), .inr ⟨g, o, c, by rw [hl], by rw [hl]; omega, h4, fun j u hj => h5 j u ?_⟩⟩
    rw [flat_take (size := 32) l (fun x hx => by rw [List.length_map]; exact h.1 x hx) M hM] at hj
    have hlt := (List.getElem?_eq_some_iff.1 hj).1
    rw [List.length_take] at hlt
    rwa [List.getElem?_take_of_lt (by omega)] at hj
set_option maxHeartbeats 16000000 in
set_option maxRecDepth 100000 in
theorem Want_calls (v1 v2 : Value) (told hv : List HsT) (w : World) (h1 : HashesAt w v1 told) (h2 : HashesAt w v2 hv) (hn1 : told.length ≤ 100000) (hn2 : hv.length ≤ 100000) :
    Calls Try.prog 37 #[v1, v2] w fun e w' => ∃ v' R, e = .returned v' ∧ HashOwn w' w.heap.size 23 v' (R.take 256) ∧ Rises R ∧ (∀ x, x ∈ R ↔ x ∈ told ∧ x ∉ hv) ∧ Below w.heap.size w w' := by
  obtain ⟨hao, hc, rfl, _⟩ := h2.slice
  have H1 := Lib.hid h1
  have H2 := Lib.hid h2
  obtain ⟨n, hnn⟩ : ∃ n, n = hv.length := ⟨_, rfl⟩
  have HN := Lib.hid hnn
  rw [← hnn] at hn2 H2 ⊢
  clear h1 h2 hnn
  go_enter Try.func37, Try.ntmps37
  go_wp2_with (first | ((with_reducible show wpList _ _ _ (⟨some 9, _, _, _, _, _⟩ :: _) _ _); refine wpList_makeM rfl 150 rfl hashOk hashEnc ?_; intro w1 s1 b1 m1; clear s1) | ((with_reducible show wpList _ _ _ (⟨some 5, _, _, _, _, _⟩ :: _) _ _); refine wpList_alloc1 rfl 150 rfl _ Try.zeroMapHB rfl ?_; intro w2 s2 b2 n2; clear s2) | ((with_reducible show wpList _ _ _ (⟨none, Op.store _ (.tmp 5) _, _, _, _, _⟩ :: _) _ _); refine wpList_storeL rfl 150 (.tmp 5) (.tmp 9) rfl w1.heap.size (.map (some w.heap.size)) (by rfl) (by rfl) _ _ n2 rfl rfl Try.sizeMapHB ?_; intro w3 n3 g3; have m3 := (m1.below b2).kept g3 (by have := m1.lt; simp; omega); have b3 := below_new b2 g3 (Nat.le_refl _) b2.size; clear b2 g3 n2))
  obtain ⟨mb, hmb⟩ : ∃ x, x = w.heap.size := ⟨_, rfl⟩
  obtain ⟨pm, hpm⟩ : ∃ x, x = w1.heap.size := ⟨_, rfl⟩
  have hB3 : Below mb w w3 := by rw [hmb]; exact b1.trans (b3.mono b1.size)
  have hS3 : WantS pm mb 0 [] w3 := ⟨by rw [hpm, hmb]; exact n3, by rw [hmb]; exact m3.congr (fun x _ => by simp [thereLook])⟩
  have hle : mb ≤ pm := by rw [hmb, hpm]; exact b1.size
  have hlt0 : mb < pm := by have := m1.lt; omega
  have HMB : Hid (mb = w.heap.size) := hmb
  rw [← hpm]
  have hS := Lib.hid hS3
  have hB := Lib.hid hB3
  clear b1 b3 m1 m3 n3 hpm hS3 hB3 hmb
  rw [show (Value.map (some w.heap.size)) = Value.map (some mb) by rw [HMB.out]]
  go_loopw [12] (fun kv wr => ∃ (k : Nat), k ≤ n ∧ kv = .int .i64 k ∧ Hid (WantS pm mb k (hv.take k) wr) ∧ Hid (Below mb w wr)) (fun kv _ => n - (intOf kv).toNat)
  case atStart => exact ⟨0, by omega, rfl, hS, hB⟩
  case round =>
    obtain ⟨k, hk, rfl, hSk, hBk⟩ := hrel
    clear hS hB
    by_cases hlt : k < n
    · obtain ⟨h, hh⟩ : ∃ h, hv[k]? = some h := ⟨_, List.getElem?_eq_getElem (by rw [← HN.out]; exact hlt)⟩
      have hL := H2.out.below (HMB.out ▸ hBk.out)
      obtain ⟨g, o, rfl, hrg⟩ := hL.range k h hh
      have H32 : Hid (h.length = 32) := hL.1 h (List.mem_of_getElem? hh)
      have HTK : Hid (hv.take (k + 1) = hv.take k ++ [h]) := by show _ = _; rw [List.take_add_one, hh]; rfl
      have hpl := hSk.out.1.lt
      clear hh hL
      go_wp2_with (first | ((with_reducible show wpList _ _ _ (⟨some 15, _, _, _, _, _⟩ :: _) _ _); refine wpList_load_mid rfl 23 (.tmp 14) rfl g (o + k * 32) (by rfl) (h.map bv) _ hrg Try.underlying23 rfl (by rw [List.length_map, H32.out]; exact Try.sizeHash) ?_) | ((with_reducible show wpList _ _ _ (⟨some 7, _, _, _, _, _⟩ :: _) _ _); refine wpList_allocZ rfl 23 rfl _ Try.zeroHash ?_; intro wa sa ba na) | ((with_reducible show wpList _ _ _ (⟨none, Op.store _ (.tmp 7) _, _, _, _, _⟩ :: _) _ _); refine wpList_storeBlk rfl 23 (.tmp 7) (.tmp 15) rfl (wr.heap.size) ((h.map bv).toArray) (by rfl) (by rfl) _ _ na (by rw [bv_size, H32.out]; exact Try.sizeHash) (by rw [bv_size, H32.out, Z32_size]) (bv_all _) ?_; intro w5 hB5 g5; have bb5 := below_new ba g5 (Nat.le_refl _) ba.size; have hS5 : Hid (WantS pm mb k (hv.take k) w5) := ⟨hSk.out.1.below bb5 hSk.out.1.lt, hSk.out.2.below bb5⟩; have hBB5 := Lib.hid (hBk.out.trans (bb5.mono (by omega))); have hPP5 := hS5.out.1; clear bb5 ba na g5 sa hSk hBk hrg) | ((with_reducible show wpList _ _ _ (⟨some 16, _, _, _, _, _⟩ :: _) _ _); refine wpList_load1 rfl 150 (.tmp 5) rfl pm 0 (by rfl) (.map (some mb)) _ (hPP5.cell 0 _ rfl) Try.underlying150 rfl ?_) | ((with_reducible show wpList _ _ _ (⟨some 17, _, _, _, _, _⟩ :: _) _ _); refine wpList_load_mid rfl 23 (.tmp 7) rfl (wr.heap.size) 0 (by rfl) (h.map bv) _ (blk_rangeP hB5) Try.underlying23 rfl (by rw [List.length_map, H32.out]; exact Try.sizeHash) ?_) | ((with_reducible show wpList _ _ _ (⟨none, Op.mapUpdate _ _ _ _, _, _, _, _⟩ :: _) _ _); refine wpList_upd rfl Try.hashKey (.tmp 16) (.tmp 17) (.const (.bool true)) 150 4 rfl Try.underlying150 mb _ _ (by rfl) hS5.out.2 h H32.out (by rfl) (.bool true) (by rfl) ?_; intro w7 hm7 g7))
      have hS7 : Hid (WantS pm mb (k + 1) (hv.take (k + 1)) w7) := ⟨hPP5.grown g7 (by simp; omega), hm7.congr (fun x _ => by
        rw [HTK.out]
        unfold thereLook
        by_cases e : x = h
        · simp [e]
        · simp [e])⟩
      have hB7 := Lib.hid (hBB5.out.grown g7 (by have := hBB5.out.size; have := HMB.out; omega) (fun q e => by cases e; exact Nat.le_refl _))
      clear hm7 g7 hS5 hBB5 hPP5 hB5
      go_wp2_with fail
      go_roundw
      case rel => exact ⟨k + 1, by omega, by go_num, hS7, hB7⟩
      case measure => simp [intOf]; omega
    · obtain rfl : k = n := by omega
      obtain ⟨z, rfl⟩ : ∃ z, z = wr := ⟨_, rfl⟩
      have hSz : Hid (WantS pm mb k hv z) := by
        have := hSk.out
        rw [List.take_of_length_le (by have := HN.out; omega)] at this
        exact this
      have H1z := H1.out.below (HMB.out ▸ hBk.out)
      clear hSk
      go_wp2_with fail
      refine (CloneH_calls _ told _ H1z (by omega)).mono ?_
      rintro e w5 ⟨v5, rfl, hv5, b5⟩
      have hV5 := Lib.hid hv5
      have hS5 : Hid (WantS pm mb k hv w5) := ⟨hSz.out.1.below b5 hSz.out.1.lt, hSz.out.2.below b5⟩
      have hB5 := Lib.hid (hBk.out.trans (b5.mono (by have := hBk.out.size; have := HMB.out; omega)))
      have hpz := hSz.out.1.lt
      have HV5 : Hid (∀ q, v5.ownBlock = some q → z.heap.size ≤ q) := fun q hq => (hv5.2.lt q hq).1
      clear hv5 b5 hSz H1z hBk
      go_wp2_with fail
      refine (DeleteH_calls (WantAsks pm mb k hv) _ v5 told _ hV5.out (by omega) hS5.out (fun y y' hy g => WantS.grown (base := 0) (n := 0) (l := []) (w0 := y) hy g (fun q hq => by have := HV5.out q hq; omega))).mono ?_
      rintro e w6 ⟨v6, rfl, h6, g6, s6, hq6⟩
      have hV6 := Lib.hid h6
      have hB6 := Lib.hid (hB5.out.grown g6 (by have := hB5.out.size; have := HMB.out; omega) (fun q e => by have := HV5.out q e; omega))
      have HV6 : Hid (∀ q, v6.ownBlock = some q → z.heap.size ≤ q) := fun q hq => HV5.out q (hq6 q hq)
      have hfl : (told.filter fun h => !decide (h ∈ hv)).length ≤ 100000 := Nat.le_trans (List.length_filter_le _ _) hn1
      obtain ⟨F, hF⟩ : ∃ F, F = told.filter fun h => !decide (h ∈ hv) := ⟨_, rfl⟩
      have HF := Lib.hid hF
      rw [← hF] at hV6 hfl
      clear h6 g6 s6 hq6 hS5 hV5 hF
      go_wp2_with fail
      refine (rising_calls _ v6 F _ hV6.out (by omega)).mono ?_
      rintro e w7 ⟨v7, R, rfl, h7, hri, hme, g7⟩
      have hV7 := Lib.hid h7
      have HRI := Lib.hid hri
      have HME : Hid (∀ x, x ∈ R ↔ x ∈ told ∧ x ∉ hv) := fun x => by rw [hme x, HF.out, List.mem_filter]; simp
      have hB7 := Lib.hid (hB6.out.grown g7 (by have := hB6.out.size; have := HMB.out; omega) (fun q e => by have := HV6.out q e; omega))
      have hRl : R.length ≤ 100000 := by
        refine Nat.le_trans (nodup_len hri.nodup (fun x hx => (hme x).1 hx)) hfl
      obtain ⟨ao7, c7, rfl⟩ := h7.slice
      have hcap : R.length ≤ c7 := own_capH h7.2
      obtain ⟨M, hM⟩ : ∃ M, M = min R.length 256 := ⟨_, rfl⟩
      have hM1 : M ≤ R.length := by omega
      have hMI : min (R.length : Int) 256 = (M : Int) := by omega
      have hMt : Hid (R.take M = R.take 256) := by
        show _ = _
        rw [hM]
        by_cases hr : R.length ≤ 256
        · rw [Nat.min_eq_left hr, List.take_length, List.take_of_length_le hr]
        · rw [Nat.min_eq_right (by omega)]
      have hcut := Lib.hid (h7.cut M hM1)
      have hMc : M ≤ c7 := by omega
      clear h7 hri hme g7 hV6 hB6 hV7 hM
      go_wp2_with fail
      refine (CloneH_calls _ (R.take M) _ hcut.out (by rw [List.length_take]; omega)).mono ?_
      rintro e w9 ⟨v9, rfl, h9, b9⟩
      have hV9 : Hid (HashOwn w9 mb 23 v9 (R.take 256)) := by
        show HashOwn _ _ _ _ _
        rw [← hMt.out]
        exact h9.low (by have := hB7.out.size; have := HMB.out; omega)
      have hB9 := Lib.hid (hB7.out.trans (b9.mono (by have := hB7.out.size; have := HMB.out; omega)))
      clear h9 b9 hcut
      go_wp2_with fail
      go_returns
      have e9 := HMB.out
      subst e9
      exact ⟨_, R, rfl, hV9.out, HRI.out, HME.out, hB9.out⟩
end Go.Proofs.Ytlomofcnknpciaa
