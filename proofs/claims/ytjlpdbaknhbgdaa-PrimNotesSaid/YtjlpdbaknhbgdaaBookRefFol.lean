/-
  bevyref04.Follows: all that follows, rising.
-/
import Derived.Test.YtjlpdbaknhbgdaaBookRefNote
import Derived.Test.YtjlpdbaknhbgdaaBookFol
import Derived.WalkLawsBesides
import Derived.Outline
import Derived.Handy
import Derived.Deep.LoopGhost
set_option linter.unusedSimpArgs false
set_option linter.unusedVariables false
namespace Go.Proofs.Ytjlpdbaknhbgdaa
open Go.RowKit

/-- What has been found so far. -/
structure FInv (fs : List FactT) (a O : List HsT) : Prop where
  rises : Rises O
  ok : ∀ x ∈ O, x.length = 32
  base : ∀ x ∈ a, x ∈ O
  sound : ∀ x ∈ O, Fol fs a x
theorem FInv.len {fs : List FactT} {a O : List HsT} (h : FInv fs a O) : O.length ≤ (univ fs a).length := nodup_len h.rises.nodup fun x hx => (h.sound x hx).univ
theorem FInv.put {fs : List FactT} {a O : List HsT} (h : FInv fs a O) {x : HsT} (hx : Fol fs a x) (h32 : x.length = 32) : FInv fs a (putT O x) where
  rises := rises_putT h.rises h.ok h32
  ok := fun y hy => by rcases (mem_putT O x y).1 hy with rfl | hy; exact h32; exact h.ok y hy
  base := fun y hy => (mem_putT O x y).2 (.inr (h.base y hy))
  sound := fun y hy => by rcases (mem_putT O x y).1 hy with rfl | hy; exact hx; exact h.sound y hy
theorem putT_longer {O : List HsT} {x : HsT} (hr : Rises O) (hx : x ∉ O) : O.length < (putT O x).length := by
  have h1 : (x :: O).Nodup := List.nodup_cons.2 ⟨hx, hr.nodup⟩
  have h2 := nodup_len (m := putT O x) h1 fun y hy => by
    rcases List.mem_cons.1 hy with rfl | hy
    · exact (mem_putT O y y).2 (.inl rfl)
    · exact (mem_putT O x y).2 (.inr hy)
  rw [List.length_cons] at h2
  omega
/-- A round over the facts under way. -/
structure PInv (fs : List FactT) (a O0 O : List HsT) (i : Nat) (M : Bool) : Prop where
  inv : FInv fs a O
  sub : ∀ x ∈ O0, x ∈ O
  more : M = true → O0.length < O.length
  same : M = false → O = O0 ∧ ∀ j f, j < i → fs[j]? = some f → (∀ x ∈ f.ins, x ∈ O) → ∀ x ∈ f.outs, x ∈ O
theorem PInv.start {fs : List FactT} {a O : List HsT} (h : FInv fs a O) : PInv fs a O O 0 false :=
  ⟨h, fun _ h => h, fun e => absurd e (by simp), fun _ => ⟨rfl, fun j f hj => absurd hj (by omega)⟩⟩
/-- .. and over a fact's secrets, all of whose others are there. -/
structure QInv (fs : List FactT) (a O0 O : List HsT) (i : Nat) (M : Bool) (f : FactT) (k : Nat) : Prop where
  pinv : PInv fs a O0 O i M
  put : M = false → ∀ j x, j < k → f.outs[j]? = some x → x ∈ O
theorem PInv.skip {fs : List FactT} {a O0 O : List HsT} {i : Nat} {M : Bool} {f : FactT} (h : PInv fs a O0 O i M) (hf : fs[i]? = some f) (hn : ¬ ∀ x ∈ f.ins, x ∈ O) : PInv fs a O0 O (i + 1) M :=
  ⟨h.inv, h.sub, h.more, fun e => ⟨(h.same e).1, fun j g hj hg hall => by
    by_cases hji : j < i
    · exact (h.same e).2 j g hji hg hall
    · obtain rfl : j = i := by omega
      rw [hf] at hg
      obtain rfl : f = g := by simpa using hg
      exact absurd hall hn⟩⟩
theorem QInv.finish {fs : List FactT} {a O0 O : List HsT} {i : Nat} {M : Bool} {f : FactT} (h : QInv fs a O0 O i M f f.outs.length) (hf : fs[i]? = some f) : PInv fs a O0 O (i + 1) M :=
  ⟨h.pinv.inv, h.pinv.sub, h.pinv.more, fun e => ⟨(h.pinv.same e).1, fun j g hj hg hall => by
    by_cases hji : j < i
    · exact (h.pinv.same e).2 j g hji hg hall
    · obtain rfl : j = i := by omega
      rw [hf] at hg
      obtain rfl : f = g := by simpa using hg
      intro x hx
      obtain ⟨j, hj⟩ := List.getElem?_of_mem hx
      exact h.put e j x (List.getElem?_eq_some_iff.1 hj).1 hj⟩⟩
theorem QInv.have_ {fs : List FactT} {a O0 O : List HsT} {i : Nat} {M : Bool} {f : FactT} {k : Nat} {x : HsT} (h : QInv fs a O0 O i M f k) (hx : f.outs[k]? = some x) (hm : x ∈ O) : QInv fs a O0 O i M f (k + 1) :=
  ⟨h.pinv, fun e j y hj hy => by
    by_cases hjk : j < k
    · exact h.put e j y hjk hy
    · obtain rfl : j = k := by omega
      rw [hx] at hy
      obtain rfl : x = y := by simpa using hy
      exact hm⟩
theorem QInv.new {fs : List FactT} {a O0 O : List HsT} {i : Nat} {M : Bool} {f : FactT} {k : Nat} {x : HsT} (h : QInv fs a O0 O i M f k) (hf : fs[i]? = some f) (hall : ∀ y ∈ f.ins, y ∈ O) (hx : f.outs[k]? = some x) (hm : x ∉ O) (h32 : x.length = 32) : QInv fs a O0 (putT O x) i true f (k + 1) := by
  have h0 : O0.length ≤ O.length := by
    cases hM : M with
    | true => exact Nat.le_of_lt (h.pinv.more hM)
    | false => rw [(h.pinv.same hM).1]; exact Nat.le_refl _
  refine ⟨⟨h.pinv.inv.put (.step (List.mem_of_getElem? hf) (fun y hy => h.pinv.inv.sound y (hall y hy)) (List.mem_of_getElem? hx)) h32, fun y hy => (mem_putT O x y).2 (.inr (h.pinv.sub y hy)), fun _ => ?_, fun e => by cases e⟩, fun e => by cases e⟩
  have := putT_longer h.pinv.inv.rises hm
  omega
theorem FInv.all {fs : List FactT} {a O : List HsT} (h : FInv fs a O) (hc : ∀ f ∈ fs, (∀ x ∈ f.ins, x ∈ O) → ∀ x ∈ f.outs, x ∈ O) (x : HsT) : x ∈ O ↔ Fol fs a x :=
  ⟨h.sound x, fun hx => closed_fol h.base hc hx⟩
/-- behind a round in which nothing came. -/
theorem PInv.closed {fs : List FactT} {a O0 O : List HsT} (h : PInv fs a O0 O fs.length false) : ∀ f ∈ fs, (∀ x ∈ f.ins, x ∈ O) → ∀ x ∈ f.outs, x ∈ O := fun f hf => by
  obtain ⟨j, hj⟩ := List.getElem?_of_mem hf
  exact (h.same rfl).2 j f (List.getElem?_eq_some_iff.1 hj).1 hj
def allIn (O : List HsT) (l : List HsT) : Bool := decide (∀ x ∈ l, x ∈ O)
theorem allIn_nil (O : List HsT) : allIn O [] = true := by simp [allIn]
theorem allIn_snoc (O l : List HsT) (x : HsT) : allIn O (l ++ [x]) = (allIn O l && decide (x ∈ O)) := by
  unfold allIn
  rw [Bool.eq_iff_iff]
  simp only [decide_eq_true_eq, Bool.and_eq_true, List.mem_append, List.mem_singleton]
  constructor
  · intro h; exact ⟨fun y hy => h y (.inl hy), h x (.inr rfl)⟩
  · rintro ⟨h1, h2⟩ y (hy | rfl)
    · exact h1 y hy
    · exact h2
def gkT (U n : Nat) (M : Bool) : Nat := if M = true then U - n + 1 else 0
theorem outer_lt {U a b : Nat} {M : Bool} (h1 : M = true → a < b) (h2 : b ≤ U) : gkT U b M < gkT U a true := by
  unfold gkT
  rw [if_pos rfl]
  cases M with
  | true => rw [if_pos rfl]; have := h1 rfl; omega
  | false => rw [if_neg (by simp)]; omega
def ClosedIf (fs : List FactT) (O : List HsT) (M : Bool) : Prop := M = false → ∀ f ∈ fs, (∀ x ∈ f.ins, x ∈ O) → ∀ x ∈ f.outs, x ∈ O
def FolPost (base : Nat) (w : World) (fs : List FactT) (a : List HsT) (e : Ending) (w' : World) : Prop :=
  ∃ v' R, e = .returned v' ∧ HashOwn w' base 25 v' R ∧ Rises R ∧ (∀ h, h ∈ R ↔ Fol fs a h) ∧ Below base w w'
theorem FolPost.mk {base : Nat} {w : World} {fs : List FactT} {a : List HsT} {w' : World} {v' : Value} {R : List HsT} (h1 : HashOwn w' base 25 v' R) (h2 : Rises R) (h3 : ∀ h, h ∈ R ↔ Fol fs a h) (h4 : Below base w w') : FolPost base w fs a (.returned v') w' := ⟨v', R, rfl, h1, h2, h3, h4⟩
set_option maxHeartbeats 32000000 in
set_option maxRecDepth 100000 in
theorem RefFollows_calls (v1 v2 : Value) (fs : List FactT) (a : List HsT) (w : World) (hF : FactsAt w v1 fs) (hA : HashesAt w v2 a) (hok : ∀ f ∈ fs, FOk f) (hU : (univ fs a).length ≤ 500000) (hn : fs.length ≤ 2000000) :
    Calls Try.prog 20 #[v1, v2] w (FolPost w.heap.size w fs a) := by
  obtain ⟨vao, vc, rfl, hvc⟩ := hF.slice
  obtain ⟨aao, ac, rfl, hac⟩ := hA.slice
  have hal : a.length ≤ 500000 := by unfold univ at hU; rw [List.length_append] at hU; omega
  obtain ⟨base, hbase⟩ : ∃ base, base = w.heap.size := ⟨_, rfl⟩
  have HBS : Hid (base = w.heap.size) := hbase
  obtain ⟨n, hnn⟩ : ∃ n, n = fs.length := ⟨_, rfl⟩
  obtain ⟨m, hm⟩ : ∃ m, m = a.length := ⟨_, rfl⟩
  rw [← hnn] at hF hvc hn ⊢
  rw [← hm] at hA hac hal ⊢
  have HFA : Hid (∀ (i : Nat) (f : FactT), fs[i]? = some f → ∃ g o x y, vao = some ⟨g, o, none⟩ ∧ ∀ w', Below base w w' → w'.cell? ⟨g, o + i * 2, none⟩ = some x ∧ w'.cell? ⟨g, o + i * 2 + 1, none⟩ = some y ∧ HashesAt w' x f.ins ∧ HashesAt w' y f.outs) := fun i f hi => by
    obtain ⟨g, o, x, y, h1, h2, -, h3, h4, h5, h6⟩ := hF.fact i f hi
    refine ⟨g, o, x, y, h1, fun w' b => ?_⟩
    rw [hbase] at b
    exact ⟨(b.cell (p := ⟨g, _, none⟩) h2).trans h3, (b.cell (p := ⟨g, _, none⟩) h2).trans h4, h5.below b, h6.below b⟩
  have HAA : Hid (∀ w', Below base w w' → HashesAt w' (.slice aao m ac) a) := fun w' b => by rw [hbase] at b; exact hA.below b
  have HA32 := Lib.hid hA.1
  have HOK := Lib.hid hok
  have HN := Lib.hid hnn
  have HM := Lib.hid hm
  obtain ⟨UU, hUU⟩ : ∃ UU, UU = (univ fs a).length := ⟨_, rfl⟩
  have HUU : Hid (UU = (univ fs a).length ∧ UU ≤ 500000) := ⟨hUU, by rw [hUU]; exact hU⟩
  clear hF hA hok hU hnn hm hUU
  rw [← hbase]
  have hB0 := Below.refl base w
  go_enter Try.func20, Try.ntmps20
  go_wp2_with fail
  go_loopw [5, 6] (fun v i wr => ∃ (k : Nat) (O : List HsT), k ≤ m ∧ i = .int .i64 (k : Nat) ∧ Hid (HashOwn wr base 25 v O) ∧ Hid (Rises O ∧ ∀ x, x ∈ O ↔ x ∈ a.take k) ∧ Hid (Below base w wr)) (fun _ i _ => m - (intOf i).toNat)
  case atStart => exact ⟨0, [], by omega, rfl, Lib.hid (HashOwn.nil _ _ _), Lib.hid ⟨List.Pairwise.nil, fun x => by simp⟩, Lib.hid hB0⟩
  case round =>
    obtain ⟨k, O, hk, rfl, HO, HR, HB⟩ := hrel
    obtain ⟨dao, dm, dc, rfl⟩ := HO.out.sliceM
    by_cases hlt : k < m
    · obtain ⟨s, hs⟩ : ∃ s, a[k]? = some s := ⟨a[k]'(by rw [← HM.out]; omega), List.getElem?_eq_getElem _⟩
      have HS : Hid (s.length = 32) := HA32.out s (List.mem_of_getElem? hs)
      have HSK := Lib.hid hs
      obtain ⟨g, o, rfl, hr⟩ := (HAA.out _ HB.out).range k s hs
      have HRR := Lib.hid hr
      have HOL : Hid (O.length ≤ 900000) := by
        show _ ≤ _
        have h1 := nodup_len (m := a) HR.out.1.nodup (fun x hx => List.mem_of_mem_take ((HR.out.2 x).1 hx))
        rw [← HM.out] at h1
        omega
      have hbl : base ≤ wr.heap.size := Nat.le_trans (Nat.le_of_eq HBS.out) HB.out.size
      clear hr hs
      go_wp2_with ((with_reducible show wpList _ _ _ (⟨some 22, _, _, _, _, _⟩ :: _) _ _); refine wpList_load_mid rfl 25 (.tmp 21) rfl g (o + k * 32) (by rfl) (s.map bv) _ HRR.out Try.underlying25 rfl (by rw [List.length_map, HS.out]; exact Try.sizeA32) ?_)
      refine (putRef_calls _ O s wr HO.out.at HS.out HOL.out).mono ?_
      rintro e w2 ⟨v2, rfl, hO2, b2⟩
      have HO2 := Lib.hid (hO2.weakR hbl)
      have HB2 := Lib.hid (HB.out.trans (b2.mono hbl))
      clear hO2 b2
      go_wp2_with fail
      go_roundw
      case rel => exact ⟨k + 1, putT O s, by omega, by go_num, HO2, Lib.hid ⟨rises_putT HR.out.1 (fun x hx => HO.out.1 x hx) HS.out, fun x => by
        obtain ⟨h3, h4⟩ := List.getElem?_eq_some_iff.1 HSK.out
        rw [mem_putT, HR.out.2, List.take_succ_eq_append_getElem h3, h4, List.mem_append, List.mem_singleton]
        exact or_comm⟩, HB2⟩
      case measure => simp [intOf]; omega
    · obtain rfl : m = k := by omega
      have HI : Hid (FInv fs a O) := ⟨HR.out.1, HO.out.1, fun x hx => (HR.out.2 x).2 (by rw [HM.out, List.take_length]; exact hx), fun x hx => .base (List.mem_of_mem_take ((HR.out.2 x).1 hx))⟩
      obtain ⟨v0, hv0⟩ : ∃ v, v = Value.slice dao dm dc := ⟨_, rfl⟩
      have HO1 : Hid (HashOwn wr base 25 (.slice dao dm dc) O) := HO
      have HB1 := HB
      clear hv0 HO HB HR
      go_wp2_with fail
      obtain ⟨W0, hW0⟩ : ∃ W0 : World, W0 = w := ⟨_, rfl⟩
      go_loopg [5, 7] (gkT UU O.length true) (fun gk v7 m7 wr => ∃ (O : List HsT) (M : Bool), gk = gkT UU O.length M ∧ m7 = .bool M ∧ Hid (HashOwn wr base 25 v7 O) ∧ Hid (FInv fs a O) ∧ Hid (ClosedIf fs O M) ∧ Hid (Below base w wr))
      case atStart => exact ⟨O, true, rfl, rfl, HO1, HI, Lib.hid (fun e => by cases e), HB1⟩
      case round =>
        clear HO1 HI HB1
        obtain ⟨O0, M, hgk, rfl, HO, HI, HC, HB⟩ := hrel
        have HGK := Lib.hid hgk
        clear hgk
        obtain ⟨dao, dm, dc, rfl⟩ := HO.out.sliceM
        cases M with
        | false =>
          go_wp2_with fail
          go_returns
          exact .mk HO.out HI.out.rises (HI.out.all (HC.out rfl)) HB.out
        | true =>
          have HP : Hid (PInv fs a O0 O0 0 false) := PInv.start HI.out
          clear HI HC
          go_wp2_with fail
          go_loopw [5, 7, 8] (fun v m7 i wr => ∃ (i' : Nat) (O : List HsT) (M : Bool), i' ≤ n ∧ i = .int .i64 (i' : Nat) ∧ m7 = .bool M ∧ Hid (HashOwn wr base 25 v O) ∧ Hid (PInv fs a O0 O i' M) ∧ Hid (Below base w wr)) (fun _ _ i _ => n - (intOf i).toNat)
          case atStart => exact ⟨0, O0, false, by omega, rfl, rfl, HO, HP, HB⟩
          case round =>
            clear HO HP HB
            obtain ⟨i, O, M, hi, rfl, rfl, HO, HP, HB⟩ := hrel
            obtain ⟨dao, dm, dc, rfl⟩ := HO.out.sliceM
            by_cases hlt : i < n
            · obtain ⟨f, hf⟩ : ∃ f, fs[i]? = some f := ⟨fs[i]'(by rw [← HN.out]; omega), List.getElem?_eq_getElem _⟩
              have HFK := Lib.hid hf
              have HFO := Lib.hid (HOK.out f (List.mem_of_getElem? hf))
              obtain ⟨g, o, x, y, rfl, hc⟩ := HFA.out i f hf
              obtain ⟨-, -, hx, hy⟩ := hc _ HB.out
              obtain ⟨xao, xc, rfl, hxc⟩ := hx.slice
              obtain ⟨yao, yc, rfl, hyc⟩ := hy.slice
              obtain ⟨p, hp⟩ : ∃ p, p = f.ins.length := ⟨_, rfl⟩
              obtain ⟨q, hq⟩ : ∃ q, q = f.outs.length := ⟨_, rfl⟩
              have hpl := HFO.out.li
              have hql := HFO.out.lo
              rw [← hp] at hx hxc hpl hc
              rw [← hq] at hy hyc hql hc
              have HC := Lib.hid hc
              have HPL := Lib.hid hp
              have HQL := Lib.hid hq
              have HOL : Hid (O.length ≤ 500000) := by show _ ≤ _; have e1 := HP.out.inv.len; have e2 := HUU.out; omega
              have HDM : Hid (dm = O.length) := by obtain ⟨ao, c, e⟩ := HO.out.slice; simp only [Value.slice.injEq] at e; exact e.2.1
              clear hf hc hx hy hp hq
              go_wp2_with fail
              obtain ⟨wo, rfl⟩ : ∃ wo : World, wo = wr := ⟨_, rfl⟩
              have HWO : Hid (base ≤ wo.heap.size) := Nat.le_trans (Nat.le_of_eq HBS.out) HB.out.size
              go_loopw [9, 10] (fun al k wx => ∃ (k' : Nat) (B : Bool), k' ≤ p ∧ k = .int .i64 (k' : Nat) ∧ al = .bool B ∧ Hid (B = allIn O (f.ins.take k')) ∧ Hid (Below wo.heap.size wo wx)) (fun _ k _ => p - (intOf k).toNat)
              case atStart => exact ⟨0, true, by omega, rfl, rfl, Lib.hid (allIn_nil O).symm, Lib.hid (Below.refl _ _)⟩
              case round =>
                obtain ⟨k, B, hk, rfl, rfl, HAL, HBX⟩ := hrel
                have HBw : Hid (Below base w wr) := HB.out.trans (HBX.out.mono HWO.out)
                have HOx : Hid (HashOwn wr base 25 (.slice dao dm dc) O) := HO.out.below HBX.out
                obtain ⟨hca, hcb, hX, hY⟩ := HC.out wr HBw.out
                by_cases hlt2 : k < p
                · obtain ⟨s, hs⟩ : ∃ s, f.ins[k]? = some s := ⟨f.ins[k]'(by rw [← HPL.out]; omega), List.getElem?_eq_getElem _⟩
                  have HS : Hid (s.length = 32) := HFO.out.ins s (List.mem_of_getElem? hs)
                  have HSN : Hid (allIn O (f.ins.take (k + 1)) = (B && decide (s ∈ O))) := by
                    show _ = _
                    obtain ⟨h3, h4⟩ := List.getElem?_eq_some_iff.1 hs
                    rw [List.take_succ_eq_append_getElem h3, h4, allIn_snoc, HAL.out]
                  obtain ⟨g2, o2, rfl, hr⟩ := hX.range k s hs
                  have HR := Lib.hid hr
                  clear hs hr hX hY
                  cases B with
                  | true =>
                    obtain ⟨D, hD⟩ : ∃ D, D = decide (s ∈ O) := ⟨_, rfl⟩
                    have HD : Hid (decide (s ∈ O) = D) := hD.symm
                    have HSM : Hid (D = allIn O (f.ins.take (k + 1))) := by show _ = _; rw [HSN.out, hD]; rfl
                    clear hD
                    go_wp2_with ((with_reducible show wpList _ _ _ (⟨some 51, _, _, _, _, _⟩ :: _) _ _); refine wpList_if (by rfl) (wp_load_mid 25 (.tmp 50) rfl g2 (o2 + k * 32) (by rfl) (s.map bv) _ HR.out Try.underlying25 rfl (by rw [List.length_map, HS.out]; exact Try.sizeA32) ?_))
                    refine (Has_calls _ O s HS.out wr HOx.out.at (Nat.le_trans HOL.out (by omega))).mono ?_
                    rintro e w2 ⟨rfl, b2⟩
                    rw [HD.out]
                    have HB2 : Hid (Below wo.heap.size wo w2) := HBX.out.trans (b2.mono HBX.out.size)
                    clear b2
                    go_wp2_with fail
                    go_roundw
                    case rel => exact ⟨k + 1, D, by omega, by go_num, rfl, HSM, HB2⟩
                    case measure => simp [intOf]; omega
                  | false =>
                    go_wp2_with fail
                    go_roundw
                    case rel => exact ⟨k + 1, false, by omega, by go_num, rfl, HSN.out.symm, HBX⟩
                    case measure => simp [intOf]; omega
                · obtain rfl : p = k := by omega
                  have HAL2 : Hid (B = allIn O f.ins) := by show _ = _; rw [HAL.out, HPL.out, List.take_length]
                  clear HAL hX hY HBX
                  obtain ⟨wq, rfl⟩ : ∃ wq : World, wq = wr := ⟨_, rfl⟩
                  cases B with
                  | false =>
                    have HSK : Hid (PInv fs a O0 O (i + 1) M) := HP.out.skip HFK.out (of_decide_eq_false HAL2.out.symm)
                    go_wp2_with fail
                    go_loopw [5, 7, 11] (fun v m7 k wx => v = .slice dao dm dc ∧ m7 = .bool M ∧ k = .int .i64 0 ∧ Hid (wx = wq)) (fun _ _ _ _ => 0)
                    case atStart => exact ⟨rfl, rfl, rfl, Lib.hid rfl⟩
                    case round =>
                      obtain ⟨rfl, rfl, rfl, HW⟩ := hrel
                      obtain rfl : wr = wq := HW.out
                      clear HW
                      by_cases hq0 : 0 < q
                      all_goals
                        go_wp2_with fail
                        go_roundw
                        case rel => exact ⟨i + 1, O, M, by omega, by go_num, rfl, HOx, HSK, HBw⟩
                        case measure => simp [intOf]; omega
                  | true =>
                    have HALL : Hid (∀ y ∈ f.ins, y ∈ O) := by show ∀ y ∈ f.ins, y ∈ O; exact of_decide_eq_true HAL2.out.symm
                    have HQ : Hid (QInv fs a O0 O i M f 0) := ⟨HP.out, fun _ j x hj => absurd hj (by omega)⟩
                    clear HP HAL2
                    go_wp2_with fail
                    go_loopw [5, 7, 11] (fun v m7 k wx => ∃ (k' : Nat) (O' : List HsT) (M' : Bool), k' ≤ q ∧ k = .int .i64 (k' : Nat) ∧ m7 = .bool M' ∧ Hid (HashOwn wx base 25 v O') ∧ Hid (QInv fs a O0 O' i M' f k') ∧ Hid (∀ y ∈ f.ins, y ∈ O') ∧ Hid (Below base w wx)) (fun _ _ k _ => q - (intOf k).toNat)
                    case atStart => exact ⟨0, O, M, by omega, rfl, rfl, HOx, HQ, HALL, HBw⟩
                    case round =>
                      clear HOx HQ HALL HBw HO HB HOL HDM
                      obtain ⟨k, O', M', hk, rfl, rfl, HO, HQ, HALL, HB⟩ := hrel
                      obtain ⟨dao, dm, dc, rfl⟩ := HO.out.sliceM
                      obtain ⟨hca, hcb, hX, hY⟩ := HC.out wr HB.out
                      by_cases hlt3 : k < q
                      · obtain ⟨s, hs⟩ : ∃ s, f.outs[k]? = some s := ⟨f.outs[k]'(by rw [← HQL.out]; omega), List.getElem?_eq_getElem _⟩
                        have HS : Hid (s.length = 32) := HFO.out.outs s (List.mem_of_getElem? hs)
                        have HSK := Lib.hid hs
                        have HOL : Hid (O'.length ≤ 500000) := by show _ ≤ _; have e1 := HQ.out.pinv.inv.len; have e2 := HUU.out; omega
                        have hbl : base ≤ wr.heap.size := Nat.le_trans (Nat.le_of_eq HBS.out) HB.out.size
                        obtain ⟨g2, o2, rfl, hr⟩ := hY.range k s hs
                        have HR := Lib.hid hr
                        have HRK : Hid (∀ w', Below base w w' → w'.rangeAt g2 (o2 + k * 32) (s.map bv)) := fun w' b => (HC.out w' b).2.2.2.range' k s hs
                        clear hs hr hX hY
                        by_cases hm : s ∈ O'
                        · have HD : Hid (decide (s ∈ O') = true) := decide_eq_true hm
                          have HQ2 : Hid (QInv fs a O0 O' i M' f (k + 1)) := HQ.out.have_ HSK.out hm
                          clear hm
                          go_wp2_with ((with_reducible show wpList _ _ _ (⟨some 75, _, _, _, _, _⟩ :: _) _ _); refine wpList_load_mid rfl 25 (.tmp 74) rfl g2 (o2 + k * 32) (by rfl) (s.map bv) _ HR.out Try.underlying25 rfl (by rw [List.length_map, HS.out]; exact Try.sizeA32) ?_)
                          refine (Has_calls _ O' s HS.out wr HO.out.at (Nat.le_trans HOL.out (by omega))).mono ?_
                          rintro e w2 ⟨rfl, b2⟩
                          rw [HD.out]
                          have HB2 : Hid (Below base w w2) := HB.out.trans (b2.mono hbl)
                          have HO2 : Hid (HashOwn w2 base 25 (.slice dao dm dc) O') := HO.out.below b2
                          clear b2
                          go_wp2_with fail
                          go_roundw
                          case rel => exact ⟨k + 1, O', M', by omega, by go_num, rfl, HO2, HQ2, HALL, HB2⟩
                          case measure => simp [intOf]; omega
                        · have HD : Hid (decide (s ∈ O') = false) := decide_eq_false hm
                          have HQ2 : Hid (QInv fs a O0 (putT O' s) i true f (k + 1)) := HQ.out.new HFK.out HALL.out HSK.out hm HS.out
                          have HAL2 : Hid (∀ y ∈ f.ins, y ∈ putT O' s) := fun y hy => (mem_putT _ _ _).2 (.inr (HALL.out y hy))
                          clear hm
                          go_wp2_with ((with_reducible show wpList _ _ _ (⟨some 75, _, _, _, _, _⟩ :: _) _ _); refine wpList_load_mid rfl 25 (.tmp 74) rfl g2 (o2 + k * 32) (by rfl) (s.map bv) _ HR.out Try.underlying25 rfl (by rw [List.length_map, HS.out]; exact Try.sizeA32) ?_)
                          refine (Has_calls _ O' s HS.out wr HO.out.at (Nat.le_trans HOL.out (by omega))).mono ?_
                          rintro e w2 ⟨rfl, b2⟩
                          rw [HD.out]
                          have HB2 : Hid (Below base w w2) := HB.out.trans (b2.mono hbl)
                          have HO2 : Hid (HashOwn w2 base 25 (.slice dao dm dc) O') := HO.out.below b2
                          have hbl2 : base ≤ w2.heap.size := Nat.le_trans (Nat.le_of_eq HBS.out) HB2.out.size
                          obtain ⟨hca, hcb, -, -⟩ := HC.out w2 HB2.out
                          clear b2
                          go_wp2_with ((with_reducible show wpList _ _ _ (⟨some 86, _, _, _, _, _⟩ :: _) _ _); refine wpList_load_mid rfl 25 (.tmp 85) rfl g2 (o2 + k * 32) (by rfl) (s.map bv) _ (HRK.out _ HB2.out) Try.underlying25 rfl (by rw [List.length_map, HS.out]; exact Try.sizeA32) ?_)
                          refine (putRef_calls _ O' s w2 HO2.out.at HS.out (Nat.le_trans HOL.out (by omega))).mono ?_
                          rintro e w3 ⟨v3, rfl, hO3, b3⟩
                          have HO3 := Lib.hid (hO3.weakR hbl2)
                          have HB3 := Lib.hid (HB2.out.trans (b3.mono hbl2))
                          clear hO3 b3
                          go_wp2_with fail
                          go_roundw
                          case rel => exact ⟨k + 1, putT O' s, true, by omega, by go_num, rfl, HO3, HQ2, HAL2, HB3⟩
                          case measure => simp [intOf]; omega
                      · obtain rfl : q = k := by omega
                        have HPF : Hid (PInv fs a O0 O' (i + 1) M') := by
                          have e := HQ.out
                          rw [HQL.out] at e
                          exact e.finish HFK.out
                        go_wp2_with fail
                        go_roundw
                        case rel => exact ⟨i + 1, O', M', by omega, by go_num, rfl, HO, HPF, HB⟩
                        case measure => simp [intOf]; omega
            · obtain rfl : n = i := by omega
              have HCL : Hid (ClosedIf fs O M) := fun e => by
                have e1 := HP.out
                rw [HN.out, e] at e1
                exact e1.closed
              have HI : Hid (FInv fs a O) := HP.out.inv
              have HML : Hid (gkT UU O.length M < gk) := by
                show _ < _
                rw [HGK.out]
                exact outer_lt HP.out.more (by have e1 := HP.out.inv.len; have e2 := HUU.out; omega)
              go_wp2_with fail
              go_roundg (gkT UU O.length M)
              case rel => exact ⟨O, M, rfl, rfl, HO, HI, HCL, HB⟩
              case measure => exact HML.out
end Go.Proofs.Ytjlpdbaknhbgdaa
