/-
  slices.Clone, IndexFunc and DeleteFunc at epochs, the function being the first of glean.Tell.
-/
import Derived.Shelf.SlicesE.Clone
import Derived.Ground.SlgnProg
import Derived.Test.YtlomofcnknpciaaGleanDel
import Derived.Test.YtlomofcnknpciaaGleanOrd
import Derived.WalkLawsBesides
import Derived.Outline
import Derived.Handy
set_option linter.unusedSimpArgs false
set_option linter.unusedVariables false
namespace Go.Proofs
open Go.Shelf Go.Lib
shelf_lay_g SlLaysE0.n41 Slgn 41 at Try 95 as Try.cloneKn
end Go.Proofs
namespace Go.Proofs.Ytlomofcnknpciaa
open Go.RowKit

def zKnA : Array Value := Z32 ++ #[.int .i64 0, .string ⟨#[]⟩]
theorem zKnA_size : zKnA.size = 34 := by simp [zKnA, Z32_size]
theorem Try.zeroKn : (Try.prog.info? 164).bind (·.zero) = some (.agg zKnA) := by kernel_rfl
theorem kn_all (c : Kn) : c.cells.toArray.all (·.oneCell') = true := by
  rw [List.all_toArray, List.all_eq_true]
  exact c.one
theorem zeroKnRun (w : World) : (zeroValue 164).run Try.prog w = .ok zKn w := by
  have h := Try.zeroKn
  cases hi : Try.prog.info? 164 with
  | none => simp [hi] at h
  | some ie =>
    simp [hi] at h
    simp [zeroValue, typeInfo, hi, h, zKn, zKnA]
theorem zKn_one : ∀ u ∈ zKn.cells.toList, u.oneCell' = true := by
  intro u hu
  have h2 : u ∈ (Z32 ++ #[Value.int .i64 0, Value.string ⟨#[]⟩]).toList := hu
  rw [Array.toList_append, List.mem_append] at h2
  rcases h2 with h2 | h2
  · exact z32_one u h2
  · simp at h2
    rcases h2 with rfl | rfl <;> rfl
/-- What the function answers, in every world that the caller knows. -/
structure AsksK (S : World → Prop) (D : Kn → Bool) : Prop where
  below : ∀ y y', S y → Below y.heap.size y y' → S y'
  call : ∀ c y, S y → Calls Try.prog 96 #[.agg (Kn.cells c).toArray] y fun e w' => e = .returned (.bool (D c)) ∧ Below y.heap.size y w'
theorem Tell1Asks : AsksK (fun _ => True) (fun c => c.s.isEmpty) := ⟨fun _ _ _ _ => trivial, fun c y _ => Tell1_calls c y⟩
set_option maxHeartbeats 4000000 in
set_option maxRecDepth 100000 in
theorem CloneK_calls (base : Nat) (v : Value) (l : List Kn) (w : World) (h : KnOwn w base 164 v l) (hn : l.length ≤ 1000000) :
    Calls Try.prog 95 #[v] w fun e w' => ∃ v', e = .returned v' ∧ KnOwn w' w.heap.size 164 v' l ∧ Below w.heap.size w w' := by
  rcases h.2 with ⟨rfl, h0⟩ | ⟨g, cap, cur, rfl, hb, hg, h1, h2, h3, h4⟩
  · obtain rfl := List.eq_nil_of_length_eq_zero h0
    have hcall := AnyE.slices_Clone_nil Try.cloneKn 0 0 w
    change Calls Try.prog 95 _ _ _ at hcall
    refine hcall.mono ?_
    rintro e w' ⟨rfl, rfl⟩
    exact ⟨_, rfl, ROwn.nil _ _ _, Below.refl _ _⟩
  · obtain ⟨i0, hi, hz, hsz, hby⟩ := info_parts Try.infoKn
    have hcell : ∀ j u, (l.flatMap Kn.cells)[j]? = some u → w.cell? ⟨g, 0 + j, none⟩ = some u := by
      rcases h.at with ⟨rfl, _⟩ | ⟨g', o, c, e, _, hc⟩
      · intro j u hj; simp at hj
      · simp only [Value.slice.injEq, Option.some.injEq, Addr.mk.injEq] at e
        obtain ⟨⟨rfl, rfl, _⟩, _⟩ := e
        exact hc
    have hcall := AnyE.slices_Clone Try.cloneKn i0 zKn 34 56 hi hz hsz hby zKn_size (by decide) Try.sizeOf164 g 0 l.length cap (l.flatMap Kn.cells) w (flat_len _ (fun x _ => x.cells_len)) (by unfold maxLen; omega) (by omega) (fun j u hj => hcell j u hj) (fun u hu => by
      obtain ⟨x, _, hx⟩ := List.mem_flatMap.1 hu
      exact x.one u hx)
    change Calls Try.prog 95 _ _ _ at hcall
    refine hcall.mono ?_
    rintro e w' ⟨v', rfl, ho, _, hb⟩
    exact ⟨v', rfl, ho, hb⟩
def firstK (D : Kn → Bool) (l : List Kn) : Int := match l.findIdx? D with
  | some i => (i : Int)
  | none => -1
theorem firstK_none {D : Kn → Bool} {l : List Kn} (h : ∀ j x, j < l.length → l[j]? = some x → D x = false) : firstK D l = -1 := by
  have : l.findIdx? D = none := List.findIdx?_eq_none_iff.2 fun x hx => by
    obtain ⟨j, hj, rfl⟩ := List.getElem_of_mem hx
    exact h j _ hj (List.getElem?_eq_getElem hj)
  rw [firstK, this]
theorem firstK_some {D : Kn → Bool} {l : List Kn} {k : Nat} {x : Kn} (h : ∀ j x, j < k → l[j]? = some x → D x = false) (hx : l[k]? = some x) (hd : D x = true) : firstK D l = (k : Int) := by
  obtain ⟨hk, rfl⟩ := List.getElem?_eq_some_iff.1 hx
  have : l.findIdx? D = some k := List.findIdx?_eq_some_iff_getElem.2 ⟨hk, hd, fun j hj => by
    have := h j _ hj (List.getElem?_eq_getElem (by omega))
    simp [this]⟩
  rw [firstK, this]
set_option maxHeartbeats 4000000 in
set_option maxRecDepth 100000 in
theorem IndexK_calls {S : World → Prop} {D : Kn → Bool} (A : AsksK S D) (v : Value) (l : List Kn) (w : World) (hl : KnAt w v l) (hn : l.length ≤ 1000000) (hS : S w) :
    Calls Try.prog 147 #[v, .func (.func 96) #[] #[]] w fun e w' => e = .returned (.int .i64 (firstK D l)) ∧ Below w.heap.size w w' := by
  obtain ⟨ao, c, rfl⟩ := hl.slice
  have HL := Lib.hid hl
  have HS := Lib.hid hS
  have HA := Lib.hid A
  have hb0 := Lib.hid (Below.refl w.heap.size w)
  obtain ⟨n, hnn⟩ : ∃ n, n = l.length := ⟨_, rfl⟩
  have HN := Lib.hid hnn
  rw [← hnn] at hn HL ⊢
  obtain ⟨r, hr⟩ : ∃ r, r = firstK D l := ⟨_, rfl⟩
  have HR := Lib.hid hr
  rw [← hr]
  clear hl hS hnn hr A
  go_enter Try.func147, Try.ntmps147
  go_wp2_with fail
  go_loopw [8] (fun iv wr => ∃ (k : Nat), k ≤ n ∧ iv = .int .i64 k ∧ Hid (∀ j x, j < k → l[j]? = some x → D x = false) ∧ Hid (Below w.heap.size w wr) ∧ Hid (S wr)) (fun iv _ => n - (intOf iv).toNat)
  case atStart => exact ⟨0, by omega, rfl, Lib.hid (fun j x hj => by omega), hb0, HS⟩
  case round =>
    obtain ⟨k, hk, rfl, hno, hB, hSr⟩ := hrel
    clear hb0 HS
    by_cases hlt : k < n
    · obtain ⟨h, hh⟩ : ∃ h, l[k]? = some h := ⟨_, List.getElem?_eq_getElem (by rw [← HN.out]; exact hlt)⟩
      have hL := HL.out.below hB.out
      obtain ⟨g, o, rfl, hrg⟩ := hL.range Kn.cells_len k h hh
      have HH := Lib.hid hh
      obtain ⟨d, hd⟩ : ∃ d, d = D h := ⟨_, rfl⟩
      have HD := Lib.hid hd
      have cc : ∀ y, S y → Calls Try.prog 96 #[.agg h.cells.toArray] y fun e w' => e = .returned (.bool d) ∧ Below y.heap.size y w' := fun y hy => by rw [hd]; exact HA.out.call h y hy
      clear hh hL hd
      go_wp2_with ((with_reducible show wpList _ _ _ (⟨some 15, _, _, _, _, _⟩ :: _) _ _); refine wpList_load_mid rfl 164 (.tmp 14) rfl g (o + k * 34) (by rfl) (h.cells) _ hrg Try.underlying164 rfl (kn_size h Try.sizeKn) ?_)
      refine (cc _ hSr.out).mono ?_
      rintro e w5 ⟨rfl, b5⟩
      have hB5 := Lib.hid (hB.out.trans (b5.mono hB.out.size))
      have hS5 := Lib.hid (HA.out.below _ _ hSr.out b5)
      clear b5 cc hrg
      cases d with
      | true =>
        go_wp2_with fail
        go_returns
        rw [HR.out, firstK_some hno.out HH.out HD.out.symm]
        exact ⟨rfl, hB5.out⟩
      | false =>
        have hno5 : Hid (∀ j x, j < k + 1 → l[j]? = some x → D x = false) := fun j x hj hx => by
          by_cases hjk : j < k
          · exact hno.out j x hjk hx
          · obtain rfl : j = k := by omega
            rw [HH.out] at hx
            obtain rfl := Option.some.inj hx
            exact HD.out.symm
        go_wp2_with fail
        go_roundw
        case rel => exact ⟨k + 1, by omega, by go_num, hno5, hB5, hS5⟩
        case measure => simp [intOf]; omega
    · obtain rfl : k = n := by omega
      go_wp2_with fail
      go_returns
      rw [HR.out, firstK_none (fun j x hj hx => hno.out j x (by have := HN.out; omega) hx)]
      exact ⟨rfl, hB.out⟩
theorem keepK_snoc_no {D : Kn → Bool} {l : List Kn} {j : Nat} {x : Kn} (hx : l[j]? = some x) (hd : D x = true) : (l.take (j + 1)).filter (fun h => !D h) = (l.take j).filter (fun h => !D h) := by
  rw [List.take_add_one, hx, List.filter_append]; simp [hd]
theorem keepK_snoc_yes {D : Kn → Bool} {l : List Kn} {j : Nat} {x : Kn} (hx : l[j]? = some x) (hd : D x = false) : (l.take (j + 1)).filter (fun h => !D h) = (l.take j).filter (fun h => !D h) ++ [x] := by
  rw [List.take_add_one, hx, List.filter_append]; simp [hd]
theorem keepK_all {D : Kn → Bool} {l : List Kn} (h : ∀ j x, j < l.length → l[j]? = some x → D x = false) : l.filter (fun h => !D h) = l := by
  rw [List.filter_eq_self]
  intro x hx
  obtain ⟨j, hj, rfl⟩ := List.getElem_of_mem hx
  rw [h j _ hj (List.getElem?_eq_getElem hj)]; rfl
theorem firstK_cases (D : Kn → Bool) (l : List Kn) : (firstK D l = -1 ∧ l.filter (fun h => !D h) = l) ∨ ∃ (i : Nat) (x : Kn), firstK D l = (i : Int) ∧ i < l.length ∧ l[i]? = some x ∧ D x = true ∧ (l.take i).filter (fun h => !D h) = l.take i := by
  cases hf : l.findIdx? D with
  | none =>
    refine .inl ⟨by rw [firstK, hf], ?_⟩
    rw [List.findIdx?_eq_none_iff] at hf
    rw [List.filter_eq_self]
    intro x hx
    rw [hf x hx]; rfl
  | some i =>
    obtain ⟨h1, h2, h3⟩ := List.findIdx?_eq_some_iff_getElem.1 hf
    refine .inr ⟨i, l[i], by rw [firstK, hf], h1, List.getElem?_eq_getElem h1, h2, ?_⟩
    rw [List.filter_eq_self]
    intro x hx
    obtain ⟨j, hj, rfl⟩ := List.getElem_of_mem hx
    rw [List.length_take] at hj
    have := h3 j (by omega)
    rw [List.getElem_take]
    simpa using this
set_option maxHeartbeats 8000000 in
set_option maxRecDepth 100000 in
theorem DeleteK_calls {S : World → Prop} {D : Kn → Bool} (A : AsksK S D) (base : Nat) (v : Value) (l : List Kn) (w : World) (hl : KnOwn w base 164 v l) (hn : l.length ≤ 1000000) (hS : S w) (hst : ∀ y y', S y → y.grownBy y' v.ownBlock → S y') :
    Calls Try.prog 94 #[v, .func (.func 96) #[] #[]] w fun e w' => ∃ v', e = .returned v' ∧ KnOwn w' base 164 v' (l.filter fun h => !D h) ∧ w.grownBy w' v.ownBlock ∧ S w' ∧ (∀ q, v'.ownBlock = some q → v.ownBlock = some q) := by
  obtain ⟨ao, c, rfl⟩ := hl.slice
  have HL := Lib.hid hl
  have HS := Lib.hid hS
  have HA := Lib.hid A
  have HST := Lib.hid hst
  obtain ⟨n, hnn⟩ : ∃ n, n = l.length := ⟨_, rfl⟩
  have HN := Lib.hid hnn
  rw [← hnn] at hn HL HST ⊢
  obtain ⟨r, hr⟩ : ∃ r, r = firstK D l := ⟨_, rfl⟩
  have HR := Lib.hid hr
  have cI : Calls Try.prog 147 #[.slice ao n c, .func (.func 96) #[] #[]] w fun e w' => e = .returned (.int .i64 r) ∧ Below w.heap.size w w' := by rw [hr, hnn]; exact IndexK_calls A _ l w hl.at (by omega) hS
  clear hl hS hnn hr A hst
  go_enter Try.func94, Try.ntmps94
  go_wp2_with fail
  refine cI.mono ?_
  rintro e w1 ⟨rfl, b1⟩
  have HL1 := Lib.hid (HL.out.below b1)
  have HS1 := Lib.hid (HA.out.below _ _ HS.out b1)
  have HG1 := Lib.hid (below_grown b1 (Value.slice ao n c).ownBlock)
  clear b1 cI HL HS
  rcases firstK_cases D l with ⟨h1, h2⟩ | ⟨i0, x0, h1, h2, h3, h4, h5⟩
  · have hr1 : r = -1 := HR.out.trans h1
    subst hr1
    clear h1
    go_wp2_with fail
    go_returns
    exact ⟨_, rfl, by rw [h2]; exact HL1.out, HG1.out, HS1.out, fun q h => h⟩
  · have hr1 : r = (i0 : Int) := HR.out.trans h1
    subst hr1
    have hi0 : i0 < n := by have := HN.out; omega
    have hK0 : Hid (((l.take (i0 + 1)).filter fun h => !D h) = l.take i0) := (keepK_snoc_no h3 h4).trans h5
    have hne : ((i0 : Int) == -1) = false := by rw [beq_eq_false_iff_ne]; omega
    obtain ⟨g, rfl⟩ : ∃ g, ao = some ⟨g, 0, none⟩ := by
      rcases HL1.out.2 with ⟨e1, e2⟩ | ⟨g, cap, cur, e1, _⟩
      · have := HN.out; omega
      · injection e1 with e2 e3 e4; exact ⟨g, e2⟩
    clear h1 h2 h3 h4 h5
    go_wp2_with fail
    clear hne
    go_loopw [5, 6] (fun iv jv wr => ∃ (i j : Nat) (cur : List Kn), i < j ∧ j ≤ n ∧ iv = .int .i64 i ∧ jv = .int .i64 j ∧ Hid (cur.length = n) ∧ Hid (cur.take i = (l.take j).filter fun h => !D h) ∧ Hid (cur.drop j = l.drop j) ∧ Hid (KnOwn wr base 164 (.slice (some ⟨g, 0, none⟩) n c) cur) ∧ Hid (w.grownBy wr (some g)) ∧ Hid (S wr)) (fun _ jv _ => n - (intOf jv).toNat)
    case atStart => exact ⟨i0, i0 + 1, l, by omega, by omega, rfl, by go_num, Lib.hid HN.out.symm, Lib.hid hK0.out.symm, Lib.hid rfl, HL1, HG1, HS1⟩
    case round =>
      obtain ⟨i, j, cur, hij, hjn, rfl, rfl, hcl, hct, hcd, hO, hG, hSr⟩ := hrel
      clear HL1 HS1 HG1 hK0
      by_cases hlt : j < n
      · obtain ⟨h, hh⟩ : ∃ h, l[j]? = some h := ⟨_, List.getElem?_eq_getElem (by rw [← HN.out]; exact hlt)⟩
        have hcj : cur[j]? = some h := by
          have e1 : (cur.drop j)[0]? = (l.drop j)[0]? := by rw [hcd.out]
          rw [List.getElem?_drop, List.getElem?_drop, Nat.add_zero, hh] at e1
          exact e1
        have hrg := hO.out.at.range' Kn.cells_len j h hcj
        rw [Nat.zero_add] at hrg
        have HH := Lib.hid hh
        obtain ⟨d, hd⟩ : ∃ d, d = D h := ⟨_, rfl⟩
        have HD := Lib.hid hd
        have cc : ∀ y, S y → Calls Try.prog 96 #[.agg h.cells.toArray] y fun e w' => e = .returned (.bool d) ∧ Below y.heap.size y w' := fun y hy => by rw [hd]; exact HA.out.call h y hy
        have hcd2 : Hid (cur.drop (j + 1) = l.drop (j + 1)) := by
          show _ = _
          rw [← List.drop_drop, ← List.drop_drop, hcd.out]
        clear hh hcj hd
        go_wp2_with (first | ((with_reducible show wpList _ _ _ (⟨some 25, _, _, _, _, _⟩ :: _) _ _); refine wpList_load_mid rfl 164 (.tmp 24) rfl g (j * 34) (by rfl) (h.cells) _ hrg Try.underlying164 rfl (kn_size h Try.sizeKn) ?_) | ((with_reducible show wpList _ _ _ (⟨some 7, _, _, _, _, _⟩ :: _) _ _); refine wpList_allocZ rfl 164 rfl _ Try.zeroKn ?_; intro wa sa ba na) | ((with_reducible show wpList _ _ _ (⟨none, Op.store _ (.tmp 7) _, _, _, _, _⟩ :: _) _ _); refine wpList_storeBlk rfl 164 (.tmp 7) (.tmp 25) rfl (wr.heap.size) (h.cells.toArray) (by rfl) (by rfl) _ _ na (kn_sizeA h Try.sizeKn) (by rw [zKnA_size, List.size_toArray, h.cells_len]) (kn_all h) ?_; intro w3 hB3 g3; have bb3 := below_new ba g3 (Nat.le_refl _) ba.size; have hO3 := Lib.hid (hO.out.below bb3); have hG3 := Lib.hid (grown_trans hG.out (below_grown bb3 _)); have hS3 := Lib.hid (HA.out.below _ _ hSr.out bb3); clear bb3 ba na g3 sa hO hG hSr hrg) | ((with_reducible show wpList _ _ _ (⟨some 27, _, _, _, _, _⟩ :: _) _ _); refine wpList_load_mid rfl 164 (.tmp 7) rfl (wr.heap.size) 0 (by rfl) (h.cells) _ (blk_rangeP hB3) Try.underlying164 rfl (kn_size h Try.sizeKn) ?_))
        refine (cc _ hS3.out).mono ?_
        rintro e w5 ⟨rfl, b5⟩
        have hO5 := Lib.hid (hO3.out.below b5)
        have hG5 := Lib.hid (grown_trans hG3.out (below_grown b5 _))
        have hS5 := Lib.hid (HA.out.below _ _ hS3.out b5)
        have hB5 := hB3.below b5 hB3.lt
        clear b5 cc hO3 hG3 hS3 hB3
        cases d with
        | true =>
          have hct5 : Hid (cur.take i = (l.take (j + 1)).filter fun h => !D h) := by show _ = _; rw [keepK_snoc_no HH.out HD.out.symm]; exact hct.out
          go_wp2_with fail
          go_roundw
          case rel => exact ⟨i, j + 1, cur, by omega, by omega, rfl, by go_num, hcl, hct5, hcd2, hO5, hG5, hS5⟩
          case measure => simp [intOf]; omega
        | false =>
          have hin2 : i < n := by omega
          have hct5 : Hid ((cur.set i h).take (i + 1) = (l.take (j + 1)).filter fun h => !D h) := by
            show _ = _
            rw [keepK_snoc_yes HH.out HD.out.symm, ← hct.out, List.take_add_one, List.getElem?_set_self (by rw [hcl.out]; exact hin2), List.take_set_of_le (Nat.le_refl _)]
            rfl
          have hcd5 : Hid ((cur.set i h).drop (j + 1) = l.drop (j + 1)) := by
            show _ = _
            rw [List.drop_set_of_lt (by omega)]; exact hcd2.out
          have hsz5 := hG5.out.size
          go_wp2_with (first | ((with_reducible show wpList _ _ _ (⟨some 32, _, _, _, _, _⟩ :: _) _ _); refine wpList_load_mid rfl 164 (.tmp 7) rfl (wr.heap.size) 0 (by rfl) (h.cells) _ (blk_rangeP hB5) Try.underlying164 rfl (kn_size h Try.sizeKn) ?_) | ((with_reducible show wpList _ _ _ (⟨none, Op.store _ (.tmp 33) _, _, _, _, _⟩ :: _) _ _); refine wpList_storeOwn (cells := fun h : Kn => h.cells) (size := 34) rfl 164 (.tmp 33) (.tmp 32) rfl base 164 g n c i cur (by rfl) h (by rfl) (by have h9 := hO5.out; change World.ownsRow _ _ _ _ _ _ _ at h9; rw [hcl.out] at h9; exact h9) (fun x _ => x.cells_len) hcl.out hin2 h.cells_len h.one (by omega) Try.sizeKn ?_; intro w7 ho7 g7))
          have hO7 : Hid (KnOwn w7 base 164 (.slice (some ⟨g, 0, none⟩) n c) (cur.set i h)) := by show World.ownsRow _ _ _ _ _ _ _; rw [List.length_set, hcl.out]; exact ho7
          have hG7 := Lib.hid (grown_trans hG5.out g7)
          have hS7 := Lib.hid (HST.out _ _ hS5.out g7)
          clear ho7 g7 hO5 hG5 hS5 hB5
          go_wp2_with fail
          go_roundw
          case rel => exact ⟨i + 1, j + 1, cur.set i h, by omega, by omega, by go_num, by go_num, Lib.hid (by rw [List.length_set]; exact hcl.out), hct5, hcd5, hO7, hG7, hS7⟩
          case measure => simp [intOf]; omega
      · obtain rfl : j = n := by omega
        have hin2 : i < j := hij
        have hjc : j ≤ c := by have h9 := hO.out; change World.ownsRow _ _ _ _ _ _ _ at h9; rw [hcl.out] at h9; exact own_capH h9
        have hci : ¬ c = i := by omega
        have hci2 : ¬ i = c := by omega
        have hci3 : c - i ≠ 0 := by omega
        have hct6 : Hid (cur.take i = l.filter fun h => !D h) := by
          have := hct.out
          rw [List.take_of_length_le (l := l) (by have := HN.out; omega)] at this
          exact this
        go_wp2_with ((with_reducible show wpList _ _ _ (⟨none, Op.call _, _, _, _, _⟩ :: _) _ _); refine wpList_clearOwn (cells := fun h : Kn => h.cells) (size := 34) rfl 76 (.tmp 38) rfl base 164 zKn g j c i (j - i) (c - i) cur Try.underlying76 (fun y => by exact zeroKnRun y) zKn_size zKn_one (by rfl) (by have h9 := hO.out; change World.ownsRow _ _ _ _ _ _ _ at h9; rw [hcl.out] at h9; exact h9) (fun x _ => x.cells_len) hcl.out (by omega) (by omega) ?_; intro w7 ho7 g7)
        go_returns
        refine ⟨_, rfl, ?_, grown_trans hG.out g7, HST.out _ _ hSr.out g7, fun q h => h⟩
        show World.ownsRow _ _ _ _ _ _ _
        rw [← hct6.out, List.length_take, hcl.out, Nat.min_eq_left (by omega)]; exact ho7
end Go.Proofs.Ytlomofcnknpciaa
