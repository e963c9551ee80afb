/-
  slices.IndexFunc and slices.DeleteFunc at digests, the function being glean.Want's closure.
-/
import Derived.Test.YtlomofcnknpciaaOwnSet
import Derived.Test.YtlomofcnknpciaaBookHash
import Derived.Test.YtlomofcnknpciaaHashAt
import Derived.Test.YtlomofcnknpciaaBookLaw
import Derived.Test.YtlomofcnknpciaaBookPut
set_option linter.unusedSimpArgs false
set_option linter.unusedVariables false
namespace Go.Proofs.Ytlomofcnknpciaa
open Go.RowKit

theorem zeroHashRun (w : World) : (zeroValue 23).run Try.prog w = .ok (.agg Z32) w := by
  have h := Try.zeroHash
  cases hi : Try.prog.info? 23 with
  | none => simp [hi] at h
  | some ie =>
    simp [hi] at h
    simp [zeroValue, typeInfo, hi, h]
theorem z32_one : ∀ u ∈ (Value.agg Z32).cells.toList, u.oneCell' = true := by
  intro u hu
  have : u ∈ Z32.toList := hu
  simp [Z32] at this
  rw [this]; rfl
/-- What the closure answers, in every world that the caller knows. -/
structure Asks (S : World → Prop) (D : HsT → Bool) (pm : Nat) : Prop where
  below : ∀ y y', S y → Below y.heap.size y y' → S y'
  call : ∀ h y, h.length = 32 → S y → Calls Try.prog 92 #[.agg (h.map bv).toArray, .pointer (some ⟨pm, 0, none⟩)] y fun e w' => e = .returned (.bool (D h)) ∧ Below y.heap.size y w'
def firstT (D : HsT → Bool) (l : List HsT) : Int := match l.findIdx? D with
  | some i => (i : Int)
  | none => -1
theorem firstT_none {D : HsT → Bool} {l : List HsT} (h : ∀ j x, j < l.length → l[j]? = some x → D x = false) : firstT D l = -1 := by
  have : l.findIdx? D = none := List.findIdx?_eq_none_iff.2 fun x hx => by
    obtain ⟨j, hj, rfl⟩ := List.getElem_of_mem hx
    exact h j _ hj (List.getElem?_eq_getElem hj)
  rw [firstT, this]
theorem firstT_some {D : HsT → Bool} {l : List HsT} {k : Nat} {x : HsT} (h : ∀ j x, j < k → l[j]? = some x → D x = false) (hx : l[k]? = some x) (hd : D x = true) : firstT D l = (k : Int) := by
  obtain ⟨hk, rfl⟩ := List.getElem?_eq_some_iff.1 hx
  have : l.findIdx? D = some k := List.findIdx?_eq_some_iff_getElem.2 ⟨hk, hd, fun j hj => by
    have := h j _ hj (List.getElem?_eq_getElem (by omega))
    simp [this]⟩
  rw [firstT, this]
set_option maxHeartbeats 4000000 in
set_option maxRecDepth 100000 in
theorem IndexH_calls {S : World → Prop} {D : HsT → Bool} {pm : Nat} (A : Asks S D pm) (v : Value) (l : List HsT) (w : World) (hl : HashesAt w v l) (hn : l.length ≤ 1000000) (hS : S w) :
    Calls Try.prog 146 #[v, .func (.func 92) #[] #[.pointer (some ⟨pm, 0, none⟩)]] w fun e w' => e = .returned (.int .i64 (firstT D l)) ∧ Below w.heap.size w w' := by
  obtain ⟨ao, c, rfl, hc⟩ := hl.slice
  have HL := Lib.hid hl
  have HS := Lib.hid hS
  have HA := Lib.hid A
  have hb0 := Lib.hid (Below.refl w.heap.size w)
  obtain ⟨n, hnn⟩ : ∃ n, n = l.length := ⟨_, rfl⟩
  have HN := Lib.hid hnn
  rw [← hnn] at hn HL hc ⊢
  obtain ⟨r, hr⟩ : ∃ r, r = firstT D l := ⟨_, rfl⟩
  have HR := Lib.hid hr
  rw [← hr]
  clear hl hS hnn hr A
  go_enter Try.func146, Try.ntmps146
  go_wp2_with fail
  go_loopw [8] (fun iv wr => ∃ (k : Nat), k ≤ n ∧ iv = .int .i64 k ∧ Hid (∀ j x, j < k → l[j]? = some x → D x = false) ∧ Hid (Below w.heap.size w wr) ∧ Hid (S wr)) (fun iv _ => n - (intOf iv).toNat)
  case atStart => exact ⟨0, by omega, rfl, Lib.hid (fun j x hj => by omega), hb0, HS⟩
  case round =>
    obtain ⟨k, hk, rfl, hno, hB, hSr⟩ := hrel
    clear hb0 HS
    by_cases hlt : k < n
    · obtain ⟨h, hh⟩ : ∃ h, l[k]? = some h := ⟨_, List.getElem?_eq_getElem (by rw [← HN.out]; exact hlt)⟩
      have hL := HL.out.below hB.out
      obtain ⟨g, o, rfl, hrg⟩ := hL.range k h hh
      have H32 : Hid (h.length = 32) := hL.1 h (List.mem_of_getElem? hh)
      have HH := Lib.hid hh
      obtain ⟨d, hd⟩ : ∃ d, d = D h := ⟨_, rfl⟩
      have HD := Lib.hid hd
      have cc : ∀ y, S y → Calls Try.prog 92 #[.agg (h.map bv).toArray, .pointer (some ⟨pm, 0, none⟩)] y fun e w' => e = .returned (.bool d) ∧ Below y.heap.size y w' := fun y hy => by rw [hd]; exact HA.out.call h y H32.out hy
      clear hh hL hd
      go_wp2_with ((with_reducible show wpList _ _ _ (⟨some 15, _, _, _, _, _⟩ :: _) _ _); refine wpList_load_mid rfl 23 (.tmp 14) rfl g (o + k * 32) (by rfl) (h.map bv) _ hrg Try.underlying23 rfl (by rw [List.length_map, H32.out]; exact Try.sizeHash) ?_)
      refine (cc _ hSr.out).mono ?_
      rintro e w5 ⟨rfl, b5⟩
      have hB5 := Lib.hid (hB.out.trans (b5.mono hB.out.size))
      have hS5 := Lib.hid (HA.out.below _ _ hSr.out b5)
      clear b5 cc hrg
      cases d with
      | true =>
        go_wp2_with fail
        go_returns
        rw [HR.out, firstT_some hno.out HH.out HD.out.symm]
        exact ⟨rfl, hB5.out⟩
      | false =>
        have hno5 : Hid (∀ j x, j < k + 1 → l[j]? = some x → D x = false) := fun j x hj hx => by
          by_cases hjk : j < k
          · exact hno.out j x hjk hx
          · obtain rfl : j = k := by omega
            rw [HH.out] at hx
            obtain rfl := Option.some.inj hx
            exact HD.out.symm
        go_wp2_with fail
        go_roundw
        case rel => exact ⟨k + 1, by omega, by go_num, hno5, hB5, hS5⟩
        case measure => simp [intOf]; omega
    · obtain rfl : k = n := by omega
      go_wp2_with fail
      go_returns
      rw [HR.out, firstT_none (fun j x hj hx => hno.out j x (by have := HN.out; omega) hx)]
      exact ⟨rfl, hB.out⟩
theorem own_capH {w : World} {base : Nat} {e : TypeId} {size n c : Nat} {ao : Option Addr} {xs : List Value} (h : w.ownsRow base e size (.slice ao n c) n xs) : n ≤ c := by
  rcases h.2 with ⟨h0, h1⟩ | ⟨g, cap, cur, e1, hb, hg, h1, _⟩
  · injection h0 with _ h2 h3; omega
  · injection e1 with _ _ h3; omega
theorem keep_snoc_no {D : HsT → Bool} {l : List HsT} {j : Nat} {x : HsT} (hx : l[j]? = some x) (hd : D x = true) : (l.take (j + 1)).filter (fun h => !D h) = (l.take j).filter (fun h => !D h) := by
  rw [List.take_add_one, hx, List.filter_append]; simp [hd]
theorem keep_snoc_yes {D : HsT → Bool} {l : List HsT} {j : Nat} {x : HsT} (hx : l[j]? = some x) (hd : D x = false) : (l.take (j + 1)).filter (fun h => !D h) = (l.take j).filter (fun h => !D h) ++ [x] := by
  rw [List.take_add_one, hx, List.filter_append]; simp [hd]
theorem keep_all {D : HsT → Bool} {l : List HsT} (h : ∀ j x, j < l.length → l[j]? = some x → D x = false) : l.filter (fun h => !D h) = l := by
  rw [List.filter_eq_self]
  intro x hx
  obtain ⟨j, hj, rfl⟩ := List.getElem_of_mem hx
  rw [h j _ hj (List.getElem?_eq_getElem hj)]; rfl
theorem firstT_cases (D : HsT → Bool) (l : List HsT) : (firstT D l = -1 ∧ l.filter (fun h => !D h) = l) ∨ ∃ (i : Nat) (x : HsT), firstT D l = (i : Int) ∧ i < l.length ∧ l[i]? = some x ∧ D x = true ∧ (l.take i).filter (fun h => !D h) = l.take i := by
  cases hf : l.findIdx? D with
  | none =>
    refine .inl ⟨by rw [firstT, hf], ?_⟩
    rw [List.findIdx?_eq_none_iff] at hf
    rw [List.filter_eq_self]
    intro x hx
    rw [hf x hx]; rfl
  | some i =>
    obtain ⟨h1, h2, h3⟩ := List.findIdx?_eq_some_iff_getElem.1 hf
    refine .inr ⟨i, l[i], by rw [firstT, hf], h1, List.getElem?_eq_getElem h1, h2, ?_⟩
    rw [List.filter_eq_self]
    intro x hx
    obtain ⟨j, hj, rfl⟩ := List.getElem_of_mem hx
    rw [List.length_take] at hj
    have := h3 j (by omega)
    rw [List.getElem_take]
    simpa using this
set_option maxHeartbeats 8000000 in
set_option maxRecDepth 100000 in
theorem DeleteH_calls {S : World → Prop} {D : HsT → Bool} {pm : Nat} (A : Asks S D pm) (base : Nat) (v : Value) (l : List HsT) (w : World) (hl : HashOwn w base 23 v l) (hn : l.length ≤ 1000000) (hS : S w) (hst : ∀ y y', S y → y.grownBy y' v.ownBlock → S y') :
    Calls Try.prog 90 #[v, .func (.func 92) #[] #[.pointer (some ⟨pm, 0, none⟩)]] w fun e w' => ∃ v', e = .returned v' ∧ HashOwn w' base 23 v' (l.filter fun h => !D h) ∧ w.grownBy w' v.ownBlock ∧ S w' ∧ (∀ q, v'.ownBlock = some q → v.ownBlock = some q) := by
  obtain ⟨ao, c, rfl⟩ := hl.slice
  have HL := Lib.hid hl
  have HS := Lib.hid hS
  have HA := Lib.hid A
  have HST := Lib.hid hst
  obtain ⟨n, hnn⟩ : ∃ n, n = l.length := ⟨_, rfl⟩
  have HN := Lib.hid hnn
  rw [← hnn] at hn HL HST ⊢
  obtain ⟨r, hr⟩ : ∃ r, r = firstT D l := ⟨_, rfl⟩
  have HR := Lib.hid hr
  have cI : Calls Try.prog 146 #[.slice ao n c, .func (.func 92) #[] #[.pointer (some ⟨pm, 0, none⟩)]] w fun e w' => e = .returned (.int .i64 r) ∧ Below w.heap.size w w' := by rw [hr, hnn]; exact IndexH_calls A _ l w hl.at (by omega) hS
  clear hl hS hnn hr A hst
  go_enter Try.func90, Try.ntmps90
  go_wp2_with fail
  refine cI.mono ?_
  rintro e w1 ⟨rfl, b1⟩
  have HL1 := Lib.hid (HL.out.below b1)
  have HS1 := Lib.hid (HA.out.below _ _ HS.out b1)
  have HG1 := Lib.hid (below_grown b1 (Value.slice ao n c).ownBlock)
  clear b1 cI HL HS
  rcases firstT_cases D l with ⟨h1, h2⟩ | ⟨i0, x0, h1, h2, h3, h4, h5⟩
  · have hr1 : r = -1 := HR.out.trans h1
    subst hr1
    clear h1
    go_wp2_with fail
    go_returns
    exact ⟨_, rfl, by rw [h2]; exact HL1.out, HG1.out, HS1.out, fun q h => h⟩
  · have hr1 : r = (i0 : Int) := HR.out.trans h1
    subst hr1
    have hi0 : i0 < n := by have := HN.out; omega
    have hK0 : Hid (((l.take (i0 + 1)).filter fun h => !D h) = l.take i0) := (keep_snoc_no h3 h4).trans h5
    have hne : ((i0 : Int) == -1) = false := by rw [beq_eq_false_iff_ne]; omega
    obtain ⟨g, rfl⟩ : ∃ g, ao = some ⟨g, 0, none⟩ := by
      rcases HL1.out.2.2 with ⟨e1, e2⟩ | ⟨g, cap, cur, e1, _⟩
      · have := HN.out; omega
      · injection e1 with e2 e3 e4; exact ⟨g, e2⟩
    clear h1 h2 h3 h4 h5
    go_wp2_with fail
    clear hne
    go_loopw [5, 6] (fun iv jv wr => ∃ (i j : Nat) (cur : List HsT), i < j ∧ j ≤ n ∧ iv = .int .i64 i ∧ jv = .int .i64 j ∧ Hid (cur.length = n) ∧ Hid (cur.take i = (l.take j).filter fun h => !D h) ∧ Hid (cur.drop j = l.drop j) ∧ Hid (HashOwn wr base 23 (.slice (some ⟨g, 0, none⟩) n c) cur) ∧ Hid (w.grownBy wr (some g)) ∧ Hid (S wr)) (fun _ jv _ => n - (intOf jv).toNat)
    case atStart => exact ⟨i0, i0 + 1, l, by omega, by omega, rfl, by go_num, Lib.hid HN.out.symm, Lib.hid hK0.out.symm, Lib.hid rfl, HL1, HG1, HS1⟩
    case round =>
      obtain ⟨i, j, cur, hij, hjn, rfl, rfl, hcl, hct, hcd, hO, hG, hSr⟩ := hrel
      clear HL1 HS1 HG1 hK0
      by_cases hlt : j < n
      · obtain ⟨h, hh⟩ : ∃ h, l[j]? = some h := ⟨_, List.getElem?_eq_getElem (by rw [← HN.out]; exact hlt)⟩
        have hcj : cur[j]? = some h := by
          have e1 : (cur.drop j)[0]? = (l.drop j)[0]? := by rw [hcd.out]
          rw [List.getElem?_drop, List.getElem?_drop, Nat.add_zero, hh] at e1
          exact e1
        have H32 : Hid (h.length = 32) := hO.out.1 h (List.mem_of_getElem? hcj)
        have hrg := hO.out.at.range' j h hcj
        rw [Nat.zero_add] at hrg
        have HH := Lib.hid hh
        obtain ⟨d, hd⟩ : ∃ d, d = D h := ⟨_, rfl⟩
        have HD := Lib.hid hd
        have cc : ∀ y, S y → Calls Try.prog 92 #[.agg (h.map bv).toArray, .pointer (some ⟨pm, 0, none⟩)] y fun e w' => e = .returned (.bool d) ∧ Below y.heap.size y w' := fun y hy => by rw [hd]; exact HA.out.call h y H32.out hy
        have hcd2 : Hid (cur.drop (j + 1) = l.drop (j + 1)) := by
          show _ = _
          rw [← List.drop_drop, ← List.drop_drop, hcd.out]
        clear hh hcj hd
        go_wp2_with (first | ((with_reducible show wpList _ _ _ (⟨some 25, _, _, _, _, _⟩ :: _) _ _); refine wpList_load_mid rfl 23 (.tmp 24) rfl g (j * 32) (by rfl) (h.map bv) _ hrg Try.underlying23 rfl (by rw [List.length_map, H32.out]; exact Try.sizeHash) ?_) | ((with_reducible show wpList _ _ _ (⟨some 7, _, _, _, _, _⟩ :: _) _ _); refine wpList_allocZ rfl 23 rfl _ Try.zeroHash ?_; intro wa sa ba na) | ((with_reducible show wpList _ _ _ (⟨none, Op.store _ (.tmp 7) _, _, _, _, _⟩ :: _) _ _); refine wpList_storeBlk rfl 23 (.tmp 7) (.tmp 25) rfl (wr.heap.size) ((h.map bv).toArray) (by rfl) (by rfl) _ _ na (by rw [bv_size, H32.out]; exact Try.sizeHash) (by rw [bv_size, H32.out, Z32_size]) (bv_all _) ?_; intro w3 hB3 g3; have bb3 := below_new ba g3 (Nat.le_refl _) ba.size; have hO3 := Lib.hid (hO.out.below bb3); have hG3 := Lib.hid (grown_trans hG.out (below_grown bb3 _)); have hS3 := Lib.hid (HA.out.below _ _ hSr.out bb3); clear bb3 ba na g3 sa hO hG hSr hrg) | ((with_reducible show wpList _ _ _ (⟨some 27, _, _, _, _, _⟩ :: _) _ _); refine wpList_load_mid rfl 23 (.tmp 7) rfl (wr.heap.size) 0 (by rfl) (h.map bv) _ (blk_rangeP hB3) Try.underlying23 rfl (by rw [List.length_map, H32.out]; exact Try.sizeHash) ?_))
        refine (cc _ hS3.out).mono ?_
        rintro e w5 ⟨rfl, b5⟩
        have hO5 := Lib.hid (hO3.out.below b5)
        have hG5 := Lib.hid (grown_trans hG3.out (below_grown b5 _))
        have hS5 := Lib.hid (HA.out.below _ _ hS3.out b5)
        have hB5 := hB3.below b5 hB3.lt
        clear b5 cc hO3 hG3 hS3 hB3
        cases d with
        | true =>
          have hct5 : Hid (cur.take i = (l.take (j + 1)).filter fun h => !D h) := by show _ = _; rw [keep_snoc_no HH.out HD.out.symm]; exact hct.out
          go_wp2_with fail
          go_roundw
          case rel => exact ⟨i, j + 1, cur, by omega, by omega, rfl, by go_num, hcl, hct5, hcd2, hO5, hG5, hS5⟩
          case measure => simp [intOf]; omega
        | false =>
          have hin2 : i < n := by omega
          have hct5 : Hid ((cur.set i h).take (i + 1) = (l.take (j + 1)).filter fun h => !D h) := by
            show _ = _
            rw [keep_snoc_yes HH.out HD.out.symm, ← hct.out, List.take_add_one, List.getElem?_set_self (by rw [hcl.out]; exact hin2), List.take_set_of_le (Nat.le_refl _)]
            rfl
          have hcd5 : Hid ((cur.set i h).drop (j + 1) = l.drop (j + 1)) := by
            show _ = _
            rw [List.drop_set_of_lt (by omega)]; exact hcd2.out
          have hsz5 := hG5.out.size
          go_wp2_with (first | ((with_reducible show wpList _ _ _ (⟨some 32, _, _, _, _, _⟩ :: _) _ _); refine wpList_load_mid rfl 23 (.tmp 7) rfl (wr.heap.size) 0 (by rfl) (h.map bv) _ (blk_rangeP hB5) Try.underlying23 rfl (by rw [List.length_map, H32.out]; exact Try.sizeHash) ?_) | ((with_reducible show wpList _ _ _ (⟨none, Op.store _ (.tmp 33) _, _, _, _, _⟩ :: _) _ _); refine wpList_storeOwn (cells := fun h : HsT => h.map bv) (size := 32) rfl 23 (.tmp 33) (.tmp 32) rfl base 23 g n c i cur (by rfl) h (by rfl) (by have h9 := hO5.out.2; rw [hcl.out] at h9; exact h9) (fun x hx => by rw [List.length_map]; exact hO5.out.1 x hx) hcl.out hin2 (by rw [List.length_map]; exact H32.out) (bv_one h) (by omega) Try.sizeHash ?_; intro w7 ho7 g7))
          have hO7 : Hid (HashOwn w7 base 23 (.slice (some ⟨g, 0, none⟩) n c) (cur.set i h)) := ⟨fun x hx => (List.mem_or_eq_of_mem_set hx).elim (hO5.out.1 x) (fun e => by rw [e]; exact H32.out), by rw [List.length_set, hcl.out]; exact ho7⟩
          have hG7 := Lib.hid (grown_trans hG5.out g7)
          have hS7 := Lib.hid (HST.out _ _ hS5.out g7)
          clear ho7 g7 hO5 hG5 hS5 hB5
          go_wp2_with fail
          go_roundw
          case rel => exact ⟨i + 1, j + 1, cur.set i h, by omega, by omega, by go_num, by go_num, Lib.hid (by rw [List.length_set]; exact hcl.out), hct5, hcd5, hO7, hG7, hS7⟩
          case measure => simp [intOf]; omega
      · obtain rfl : j = n := by omega
        have hin2 : i < j := hij
        have hjc : j ≤ c := by have h9 := hO.out.2; rw [hcl.out] at h9; exact own_capH h9
        have hci : ¬ c = i := by omega
        have hci2 : ¬ i = c := by omega
        have hci3 : c - i ≠ 0 := by omega
        have hct6 : Hid (cur.take i = l.filter fun h => !D h) := by
          have := hct.out
          rw [List.take_of_length_le (l := l) (by have := HN.out; omega)] at this
          exact this
        go_wp2_with ((with_reducible show wpList _ _ _ (⟨none, Op.call _, _, _, _, _⟩ :: _) _ _); refine wpList_clearOwn (cells := fun h : HsT => h.map bv) (size := 32) rfl 34 (.tmp 38) rfl base 23 (.agg Z32) g j c i (j - i) (c - i) cur Try.underlying34 (fun y => by exact zeroHashRun y) Z32_size z32_one (by rfl) (by have h9 := hO.out.2; rw [hcl.out] at h9; exact h9) (fun x hx => by rw [List.length_map]; exact hO.out.1 x hx) hcl.out (by omega) (by omega) ?_; intro w7 ho7 g7)
        go_returns
        refine ⟨_, rfl, ⟨fun x hx => ?_, ?_⟩, grown_trans hG.out g7, HST.out _ _ hSr.out g7, fun q h => h⟩
        · rw [← hct6.out] at hx; exact hO.out.1 x (List.mem_of_mem_take hx)
        · rw [← hct6.out, List.length_take, hcl.out, Nat.min_eq_left (by omega)]; exact ho7
end Go.Proofs.Ytlomofcnknpciaa
