/-
  bevylaw14.group.
-/
import Derived.Test.YtjlpdbaknhbgdaaGreatQGrp
import Derived.Test.YtjlpdbaknhbgdaaGreatQBase
import Derived.Test.YtjlpdbaknhbgdaaGreatQRefK
import Derived.WalkLawsBesides
import Derived.Deep.RegionHeld
import Derived.Deep.Cut
import Derived.Outline
import Derived.Handy
set_option linter.unusedSimpArgs false
set_option linter.unusedVariables false
namespace Go.Proofs.YtjlpdbaknhbgdaaGreat
open Go.RowKit

theorem wpList_boxB {P : Program} {ops : Array Oper} {rest : List Oper} {o : Oper} {a : Act} {w : World} {Q : Exit → Act → World → Prop} (hg : o.guard = none) (t : TypeId) (x : Operand) (ho : o.op = .box t x) (cs : Array Value) (hx : a.eval x = .agg cs)
    (h : ∀ w', Below w.heap.size w w' → Blk w' w.heap.size cs t → wpList P ops Q rest (a.put o.dst (.pointer (some ⟨w.heap.size, 0, none⟩))) w') : wpList P ops Q (o :: rest) a w := by
  refine wpList_plain hg fun K hK => ?_
  refine wp_boxZ t x ho cs hx fun g w' e _ b hb => ?_
  subst e
  exact hK _ _ (h w' b hb)
theorem Tryz.sizePE : (Tryz.prog.info? 37).map (·.size) = some 1 := by kernel_rfl
def erasG (j : List UInt8) (d : Int) (n : Nat) : List EraD := (List.range n).map fun k => eraG j d (k + 1)
def memsG (j : List UInt8) (d : Int) (n : Nat) : List RMemD := (List.range n).map fun k => memG j d (k + 1)
theorem erasG_succ (j : List UInt8) (d : Int) (i : Nat) (h : 1 ≤ i) : erasG j d (i + 1 - 1) = erasG j d (i - 1) ++ [eraG j d i] := by
  obtain ⟨n, rfl⟩ : ∃ n, i = n + 1 := ⟨i - 1, by omega⟩
  simp [erasG, List.range_succ]
theorem memsG_succ (j : List UInt8) (d : Int) (i : Nat) (h : 1 ≤ i) : memsG j d (i + 1 - 1) = memsG j d (i - 1) ++ [memG j d i] := by
  obtain ⟨n, rfl⟩ : ∃ n, i = n + 1 := ⟨i - 1, by omega⟩
  simp [memsG, List.range_succ]
theorem fra_all (f : FrA) (lv pv : Value) (hl : lv.oneCell' = true) (hp : pv.oneCell' = true) : (f.cells lv pv).toArray.all (·.oneCell') = true := by
  rw [List.all_toArray, List.all_eq_true]
  intro u hu
  simp only [FrA.cells, List.mem_append, List.mem_cons, List.mem_map] at hu
  rcases hu with ⟨b, _, rfl⟩ | ⟨b, _, rfl⟩ | rfl | rfl | rfl | ⟨b, _, rfl⟩ | ⟨b, _, rfl⟩ <;> first | rfl | assumption
theorem erasG_len (j : List UInt8) (d : Int) (n : Nat) : (erasG j d n).length = n := by simp [erasG]
theorem memsG_len (j : List UInt8) (d : Int) (n : Nat) : (memsG j d n).length = n := by simp [memsG]
theorem snoc_get2 {α β : Type} {l : List α} {m : List β} {x : α} {y : β} {P : α → β → Prop} (hl : l.length = m.length) (h : ∀ (k : Nat) a b, l[k]? = some a → m[k]? = some b → P a b) (hx : P x y) : ∀ (k : Nat) a b, (l ++ [x])[k]? = some a → (m ++ [y])[k]? = some b → P a b := by
  intro k a b h1 h2
  by_cases hk : k < l.length
  · rw [List.getElem?_append_left hk] at h1
    rw [List.getElem?_append_left (by omega)] at h2
    exact h k a b h1 h2
  · rw [List.getElem?_append_right (by omega)] at h1
    rw [List.getElem?_append_right (by omega)] at h2
    have e : k - l.length = 0 := by have := (List.getElem?_eq_some_iff.1 h1).1; simp at this; omega
    rw [e] at h1
    rw [← hl, e] at h2
    cases h1
    cases h2
    exact hx
theorem NewEra.other {w w' : World} {base r : Nat} {ms : List (Nat × EraM)} {eb : Nat} {M : EraM} {E : EraD} {cs : Array Value} {t : TypeId} (h : NewEra w base ms eb M E) (g : w.grownBy w' (some r)) (hr : Blk w r cs t) (h0 : ∃ u, cs[0]? = some u ∧ ∀ n, u ≠ .int .i64 n) (hne : 57 ≠ t) (h1 : 144 ≠ t) (h2 : 126 ≠ t) (h3 : 3 ≠ t) (h4 : 142 ≠ t) (h5 : 54 ≠ t) : NewEra w' base ms eb M E :=
  ⟨h.is.other g hr h0 (blk_ne h.is.blk hr hne) h1 h2 h3 h4 h5, h.dist⟩
theorem NewEra.drew {w : World} {base : Nat} {ms : List (Nat × EraM)} {eb : Nat} {M : EraM} {E : EraD} (h : NewEra w base ms eb M E) : NewEra w.drew base ms eb M E := h.below (below_drewN (Below.refl _ _) 1)
/-- The loop: what was made. -/
structure LpG (j : List UInt8) (d : Int) (w : World) (N gb fb g1 g2 i : Nat) (ms : List (Nat × EraM)) (rs : List RMemM) (wr : World) : Prop where
  pj : Blk wr N (j.map bv).toArray 23
  pf : Blk wr fb ((chatF j d).cells (.slice (some ⟨g1, 0, none⟩) 4 4) (.slice (some ⟨g2, 0, none⟩) 3 3)).toArray 39
  pt : TrG wr g1 g2
  pg : GrpIs wr N gb ms (erasG j d (i - 1)) rs (memsG j d (i - 1))
section
variable {j : List UInt8} {d : Int} {w wr wr' : World} {N gb fb g1 g2 i r : Nat} {ms : List (Nat × EraM)} {rs : List RMemM} {cs : Array Value} {t : TypeId}
theorem LpG.below (h : LpG j d w N gb fb g1 g2 i ms rs wr) (b : Below wr.heap.size wr wr') : LpG j d w N gb fb g1 g2 i ms rs wr' :=
  ⟨h.pj.below b h.pj.lt, h.pf.below b h.pf.lt, h.pt.below b, h.pg.below b⟩
theorem LpG.other (h : LpG j d w N gb fb g1 g2 i ms rs wr) (g : wr.grownBy wr' (some r)) (hr : Blk wr r cs t) (h0 : ∃ u, cs[0]? = some u ∧ ∀ n, u ≠ .int .i64 n) (a1 : 23 ≠ t) (a2 : 39 ≠ t) (hne : 57 ≠ t) (hg : 92 ≠ t) (h1 : 144 ≠ t) (h2 : 126 ≠ t) (h3 : 3 ≠ t) (h4 : 142 ≠ t) (h5 : 54 ≠ t) (h6 : 42 ≠ t) : LpG j d w N gb fb g1 g2 i ms rs wr' :=
  ⟨h.pj.grown g (fun e => blk_ne h.pj hr a1 (Option.some.inj e)), h.pf.grown g (fun e => blk_ne h.pf hr a2 (Option.some.inj e)), h.pt.other g hr h1 h2, h.pg.other g hr h0 hne hg h1 h2 h3 h4 h5 h6⟩
end
/-- In the round: the era's pointer is stored, the document's is not. -/
structure MidG (j : List UInt8) (d : Int) (N gb fb g1 g2 i : Nat) (ms : List (Nat × EraM)) (rs : List RMemM) (eb : Nat) (M : EraM) (og : Nat) (M2 : RMemM) (wr : World) : Prop where
  pj : Blk wr N (j.map bv).toArray 23
  pf : Blk wr fb ((chatF j d).cells (.slice (some ⟨g1, 0, none⟩) 4 4) (.slice (some ⟨g2, 0, none⟩) 3 3)).toArray 39
  pt : TrG wr g1 g2
  pg : Blk wr gb (gC (pad none ((ms ++ [(eb, M)]).map fun x => some x.1)) (pad zeroRE (plainsG rs (memsG j d (i - 1))))).toArray 92
  hb : N ≤ gb
  lm : ms.length = i - 1
  lr : rs.length = i - 1
  es : ∀ (k : Nat) (x : Nat × EraM) (E : EraD), ms[k]? = some x → (erasG j d (i - 1))[k]? = some E → EraIs wr N x.1 x.2 E
  rm : ∀ (k : Nat) (M : RMemM) (D : RMemD), rs[k]? = some M → (memsG j d (i - 1))[k]? = some D → RMemIs wr N M D
  ne : NewEra wr N ms eb M (eraG j d i)
  nr : RMemIs wr N M2 (memG j d i)
  po : Blk wr og (rerC M2 (memG j d i)).toArray 45
section
variable {j : List UInt8} {d : Int} {wr wr' : World} {N gb fb g1 g2 i r eb og : Nat} {ms : List (Nat × EraM)} {rs : List RMemM} {M : EraM} {M2 : RMemM} {cs : Array Value} {t : TypeId}
theorem MidG.below (h : MidG j d N gb fb g1 g2 i ms rs eb M og M2 wr) (b : Below wr.heap.size wr wr') : MidG j d N gb fb g1 g2 i ms rs eb M og M2 wr' :=
  ⟨h.pj.below b h.pj.lt, h.pf.below b h.pf.lt, h.pt.below b, h.pg.below b h.pg.lt, h.hb, h.lm, h.lr, fun k x E h1 h2 => (h.es k x E h1 h2).below b, fun k M D h1 h2 => (h.rm k M D h1 h2).below b, h.ne.below b, h.nr.below b, h.po.below b h.po.lt⟩
theorem MidG.make {w : World} (h : LpG j d w N gb fb g1 g2 i ms rs wr) (hne : NewEra wr N ms eb M (eraG j d i)) (hnr : RMemIs wr N M2 (memG j d i)) (ho : Blk wr og (rerC M2 (memG j d i)).toArray 45) (hi : 1 ≤ i) (hi3 : i ≤ 3)
    (hk : Blk wr' gb ((gC (pad none (ms.map fun x => some x.1)) (pad zeroRE (plainsG rs (memsG j d (i - 1))))).toArray.setIfInBounds i (.pointer (some ⟨eb, 0, none⟩))) 92) (g : wr.grownBy wr' (some gb)) : MidG j d N gb fb g1 g2 i ms rs eb M og M2 wr' := by
  have lm := h.pg.lm
  rw [erasG_len] at lm
  have lr := h.pg.lr
  rw [memsG_len] at lr
  have hG := h.pg.blk
  have h0 := gC_0 ms (pad zeroRE (plainsG rs (memsG j d (i - 1))))
  refine ⟨h.pj.grown g (fun e => blk_ne h.pj hG (by decide) (Option.some.inj e)), h.pf.grown g (fun e => blk_ne h.pf hG (by decide) (Option.some.inj e)), h.pt.other g hG (by decide) (by decide), ?_, h.pg.hb, lm, lr, fun k x E h1 h2 => (h.pg.es k x E h1 h2).other g hG h0 (blk_ne (h.pg.es k x E h1 h2).blk hG (by decide)) (by decide) (by decide) (by decide) (by decide) (by decide), fun k M D h1 h2 => (h.pg.rm k M D h1 h2).other g hG (by decide) (by decide) (by decide) (by decide) (by decide), hne.other g hG h0 (by decide) (by decide) (by decide) (by decide) (by decide) (by decide), hnr.other g hG (by decide) (by decide) (by decide) (by decide) (by decide), ho.grown g (fun e => blk_ne ho hG (by decide) (Option.some.inj e))⟩
  rw [List.setIfInBounds_toArray, show Value.pointer (some ⟨eb, 0, none⟩) = ptrV (some eb) from rfl, gC_set _ _ _ _ (by rw [pad_len _ _ (by rw [List.length_map, lm]; omega)]; omega)] at hk
  rw [List.map_append, List.map_cons, List.map_nil, pad_snoc _ _ _ (by rw [List.length_map, lm]; omega), List.length_map, lm, show i - 1 + 1 = i by omega]
  exact hk
theorem MidG.split (h : MidG j d N gb fb g1 g2 i ms rs eb M og M2 wr) (hi : 1 ≤ i) (hi3 : i ≤ 3) : ∃ A B C, gC (pad none ((ms ++ [(eb, M)]).map fun x => some x.1)) (pad zeroRE (plainsG rs (memsG j d (i - 1)))) = A ++ (B ++ C) ∧ A.length = 4 + i * 266 ∧ B.length = 266 ∧ gC (pad none ((ms ++ [(eb, M)]).map fun x => some x.1)) (pad zeroRE (plainsG (rs ++ [M2]) (memsG j d (i + 1 - 1)))) = A ++ (rerC M2 (memG j d i) ++ C) := by
  have lp : (plainsG rs (memsG j d (i - 1))).length = i - 1 := by rw [plainsG, List.length_map, List.length_zip, memsG_len, h.lr, Nat.min_self]
  have hlen := plainsG_len rs (memsG j d (i - 1))
  have h4 : (pad zeroRE (plainsG rs (memsG j d (i - 1)))).length = 4 := pad_len _ _ (by omega)
  obtain ⟨q, hq⟩ : ∃ q, (pad zeroRE (plainsG rs (memsG j d (i - 1))))[i]? = some q := ⟨_, List.getElem?_eq_getElem (by omega)⟩
  obtain ⟨A, C, e1, e2, e3⟩ := gC_split (pad none ((ms ++ [(eb, M)]).map fun x => some x.1)) _ i q (pad_len _ _ (by rw [List.length_map, List.length_append, h.lm]; simp; omega)) hlen hq
  refine ⟨A, q, C, e1, e2, hlen q (List.mem_of_getElem? hq), ?_⟩
  rw [← e3, memsG_succ _ _ _ hi]
  congr 1
  have e : plainsG (rs ++ [M2]) (memsG j d (i - 1) ++ [memG j d i]) = plainsG rs (memsG j d (i - 1)) ++ [rerC M2 (memG j d i)] := by
    rw [plainsG, List.zip_append (by rw [memsG_len, h.lr]), List.map_append]; rfl
  rw [e, pad_snoc _ _ _ (by omega), lp, show i - 1 + 1 = i by omega]
theorem MidG.done {w : World} (h : MidG j d N gb fb g1 g2 i ms rs eb M og M2 wr) (hi : 1 ≤ i) (hi3 : i ≤ 3) {A C : List Value} (he : gC (pad none ((ms ++ [(eb, M)]).map fun x => some x.1)) (pad zeroRE (plainsG (rs ++ [M2]) (memsG j d (i + 1 - 1)))) = A ++ (rerC M2 (memG j d i) ++ C))
    (hk : Blk wr' gb (A ++ (rerC M2 (memG j d i) ++ C)).toArray 92) (g : wr.grownBy wr' (some gb)) : LpG j d w N gb fb g1 g2 (i + 1) (ms ++ [(eb, M)]) (rs ++ [M2]) wr' := by
  have hG := h.pg
  have h0 := gC_0 (ms ++ [(eb, M)]) (pad zeroRE (plainsG rs (memsG j d (i - 1))))
  refine ⟨h.pj.grown g (fun e => blk_ne h.pj hG (by decide) (Option.some.inj e)), h.pf.grown g (fun e => blk_ne h.pf hG (by decide) (Option.some.inj e)), h.pt.other g hG (by decide) (by decide), ?_⟩
  refine ⟨by rw [he]; exact hk, h.hb, by rw [erasG_len, List.length_append, h.lm]; simp; omega, by rw [erasG_len]; omega, by rw [memsG_len, List.length_append, h.lr]; simp; omega, by rw [memsG_len]; omega, ?_, ?_, h.ne.dist⟩
  · rw [erasG_succ _ _ _ hi]
    exact snoc_get2 (P := fun (x : Nat × EraM) E => EraIs wr' N x.1 x.2 E) (by rw [h.lm, erasG_len]) (fun k x E h1 h2 => (h.es k x E h1 h2).other g hG h0 (blk_ne (h.es k x E h1 h2).blk hG (by decide)) (by decide) (by decide) (by decide) (by decide) (by decide)) (h.ne.is.other g hG h0 (blk_ne h.ne.is.blk hG (by decide)) (by decide) (by decide) (by decide) (by decide) (by decide))
  · rw [memsG_succ _ _ _ hi]
    exact snoc_get2 (P := fun (x : RMemM) D => RMemIs wr' N x D) (by rw [h.lr, memsG_len]) (fun k x E h1 h2 => (h.rm k x E h1 h2).other g hG (by decide) (by decide) (by decide) (by decide) (by decide)) (h.nr.other g hG (by decide) (by decide) (by decide) (by decide) (by decide))
end
set_option maxHeartbeats 16000000 in
set_option maxRecDepth 100000 in
theorem Group_calls (j : List UInt8) (hj : j.length = 32) (d : Int) (hd0 : 0 ≤ d) (hd1 : d ≤ 4611686018427387903) (w : World) :
    Calls Tryz.prog 32 #[.agg (j.map bv).toArray, .int .i64 d] w fun e w' => ∃ gb ms rs, e = .returned (.pointer (some ⟨gb, 0, none⟩)) ∧ GrpIs w' w.heap.size gb ms (erasG j d 3) rs (memsG j d 3) ∧ Below w.heap.size w w' := by
  obtain ⟨N, hN⟩ : ∃ N, N = w.heap.size := ⟨_, rfl⟩
  have HN : Hid (N = w.heap.size) := hN
  have hJ : Blk (w.alloc (.cells (j.map bv).toArray 23)) N (j.map bv).toArray 23 := by rw [hN]; exact Blk.new _ _ _
  have hb0 : Below N w (w.alloc (.cells (j.map bv).toArray 23)) := by rw [hN]; exact below_alloc1 _ _
  have HJ : Hid (j.length = 32) := hj
  have HCI : Hid ((chatId j).length = 32) := rfl
  have hj0 : (j.map bv).toArray[0]? = some (bv (j.headD 0)) := by
    cases j with
    | nil => simp at hj
    | cons a l => rfl
  have hbg : Tryz.prog.built 92 [] = some zeroG.toArray := Tryz.builtGrp
  have hgrp0 : ∀ y gb, N ≤ gb → Blk y gb zeroG.toArray 92 → GrpIs y N gb [] (erasG j d (1 - 1)) [] (memsG j d (1 - 1)) := fun y gb h1 h2 => ⟨h2, h1, rfl, Nat.zero_le _, rfl, Nat.zero_le _, fun k x E e => by simp at e, fun k M D e => by simp at e, by simp⟩
  have cM : ∀ y, Calls Tryz.prog 53 #[.pointer none, .agg (j.map bv).toArray, .string { data := #[] }] y fun e w' => e = .returned (.agg ((s7 j (derive j lWelcome []) (epochT j []) (inG j) (derive (epochT j []) lConfirm []) (apG j) (exG j)).map bv).toArray) ∧ Below y.heap.size y w' := fun y => Make_calls j [] y hj (by simp)
  have cM2 : ∀ y, Calls Tryz.prog 55 #[.agg (j.map bv).toArray, .string { data := #[] }] y fun e w' => e = .returned (.agg ((s7 j (derive j lWelcome []) (epochT j []) (inG j) (derive (epochT j []) lConfirm []) (apG j) (exG j)).map bv).toArray) ∧ Below y.heap.size y w' := fun y => RefMake_calls j [] y hj (by simp)
  have cE : ∀ (g1 g2 gb i : Nat) ms rs y, 1 ≤ i → i ≤ 3 → TrG y g1 g2 → GrpIs y N gb ms (erasG j d (i - 1)) rs (memsG j d (i - 1)) → N ≤ y.heap.size → Calls Tryz.prog 52 #[.pointer none, .agg ((chatF j d).cells (.slice (some ⟨g1, 0, none⟩) 4 4) (.slice (some ⟨g2, 0, none⟩) 3 3)).toArray, .int .i64 i, .slice none 0 0, .agg ((s7 j (derive j lWelcome []) (epochT j []) (inG j) (derive (epochT j []) lConfirm []) (apG j) (exG j)).map bv).toArray] y fun e w' => ∃ eb M, e = .returned (.tuple #[.pointer (some ⟨eb, 0, none⟩), .int .i64 0]) ∧ Hid (NewEra w' N ms eb M (eraG j d i)) ∧ Below y.heap.size y w' := fun g1 g2 gb i ms rs y hi hi3 hT hG hb =>
    (EMake_calls (chatF j d) (some ⟨g1, 0, none⟩) (some ⟨g2, 0, none⟩) 4 4 3 3 (nilsV 3) chatT i j (derive j lWelcome []) (epochT j []) (inG j) (derive (epochT j []) lConfirm []) (apG j) (exG j) y hT.is (by omega) (by omega) (fun q hq => by simp only [chatT, List.mem_cons, List.not_mem_nil, or_false] at hq; rcases hq with rfl | rfl | rfl <;> (show 0 ≤ _; omega)) chat_right (by rcases (show i = 1 ∨ i = 2 ∨ i = 3 by omega) with rfl | rfl | rfl <;> decide) hd0 hd1 (by show (List.replicate 64 (0 : Int)).any badN = false; decide) hj (derive_len' _ _ _) (derive_len' _ _ _) (derive_len' _ _ _) (derive_len' _ _ _) (derive_len' _ _ _) (derive_len' _ _ _)).mono (by
      rintro e w' ⟨eb, M, he, hE, hb2⟩
      exact ⟨eb, M, he, NewEra.make hG hb hE, hb2⟩)
  have cE2 : ∀ (g1 g2 i : Nat) y, 1 ≤ i → i ≤ 3 → TrG y g1 g2 → N ≤ y.heap.size → Calls Tryz.prog 54 #[.agg ((chatF j d).cells (.slice (some ⟨g1, 0, none⟩) 4 4) (.slice (some ⟨g2, 0, none⟩) 3 3)).toArray, .int .i64 i, .slice none 0 0, .agg ((s7 j (derive j lWelcome []) (epochT j []) (inG j) (derive (epochT j []) lConfirm []) (apG j) (exG j)).map bv).toArray] y fun e w' => ∃ M, e = .returned (.tuple #[.agg (rerC M (memG j d i)).toArray, .int .i64 0]) ∧ Hid (RMemIs w' N M (memG j d i)) ∧ Below y.heap.size y w' := fun g1 g2 i y hi hi3 hT hb =>
    (REMake_calls (chatF j d) (some ⟨g1, 0, none⟩) (some ⟨g2, 0, none⟩) 4 4 3 3 (nilsV 3) chatT i j (derive j lWelcome []) (epochT j []) (inG j) (derive (epochT j []) lConfirm []) (apG j) (exG j) y hT.is (by omega) (by omega) (fun q hq => by simp only [chatT, List.mem_cons, List.not_mem_nil, or_false] at hq; rcases hq with rfl | rfl | rfl <;> (show 0 ≤ _; omega)) chat_right (by rcases (show i = 1 ∨ i = 2 ∨ i = 3 by omega) with rfl | rfl | rfl <;> decide) hd0 hd1 (by show (List.replicate 64 (0 : Int)).any badN = false; decide) hj (derive_len' _ _ _) (derive_len' _ _ _) (derive_len' _ _ _) (derive_len' _ _ _) (derive_len' _ _ _) (derive_len' _ _ _)).mono (by
      rintro e w' ⟨M, he, hE, hb2⟩
      exact ⟨M, he, hE.low hb, hb2⟩)
  have cT : ∀ y, Calls Tryz.prog 101 #[] y fun e w' => ∃ g1 g2, e = .returned (.agg #[.slice (some ⟨g1, 0, none⟩) 4 4, .slice (some ⟨g2, 0, none⟩) 3 3]) ∧ Hid (TrG w' g1 g2) ∧ Below y.heap.size y w' := fun y => Tree14_calls y
  have hbid := Tryz.builtId j
  have hbrf := Tryz.builtRFr j d
  have hbfr := Tryz.builtFr j d
  have hcd : ∀ g1 g2 : Nat, ((chatF j d).cells (.slice (some ⟨g1, 0, none⟩) 4 4) (.slice (some ⟨g2, 0, none⟩) 3 3)).toArray[64]? = some (.int .i64 d) := fun g1 g2 => by rw [List.getElem?_toArray]; exact fr_dep (chatF j d) _ _
  have hid : ∀ (y : World) (fb g1 g2 : Nat), Blk y fb ((chatF j d).cells (.slice (some ⟨g1, 0, none⟩) 4 4) (.slice (some ⟨g2, 0, none⟩) 3 3)).toArray 39 → y.rangeAt fb 0 ((chatId j).map bv) := fun y fb g1 g2 h => fr_id (chatF j d) _ _ (blk_rangeP h)
  have htr : ∀ (y : World) (fb g1 g2 : Nat), Blk y fb ((chatF j d).cells (.slice (some ⟨g1, 0, none⟩) 4 4) (.slice (some ⟨g2, 0, none⟩) 3 3)).toArray 39 → y.rangeAt fb 65 [.slice (some ⟨g1, 0, none⟩) 4 4, .slice (some ⟨g2, 0, none⟩) 3 3] := fun y fb g1 g2 h => by have := fr_tree (chatF j d) _ _ (blk_rangeP h); simpa using this
  have hfl : ∀ g1 g2 : Nat, ((chatF j d).cells (.slice (some ⟨g1, 0, none⟩) 4 4) (.slice (some ⟨g2, 0, none⟩) 3 3)).length = 163 := fun g1 g2 => FrA.cells_len _ _ _
  have HFA : Hid (∀ g1 g2 : Nat, ((chatF j d).cells (.slice (some ⟨g1, 0, none⟩) 4 4) (.slice (some ⟨g2, 0, none⟩) 3 3)).toArray.all (·.oneCell') = true) := fun g1 g2 => fra_all _ _ _ rfl rfl
  obtain ⟨SS, hSS⟩ : ∃ z, z = ((s7 j (derive j lWelcome []) (epochT j []) (inG j) (derive (epochT j []) lConfirm []) (apG j) (exG j)).map bv).toArray := ⟨_, rfl⟩
  rw [← hSS] at cM cM2
  simp only [← hSS] at cE cE2
  obtain ⟨ZG, hZG⟩ : ∃ z, z = zeroG.toArray := ⟨_, rfl⟩
  rw [← hZG] at hbg
  simp only [← hZG] at hgrp0
  clear hj hd0 hd1 hSS hZG
  go_enter Tryz.func32, Tryz.ntmps32
  go_upto_region 1 with (fail)
  rw [← hN]
  obtain ⟨w0, hw0⟩ : ∃ z, z = w.alloc (.cells (j.map bv).toArray 23) := ⟨_, rfl⟩
  rw [← hw0] at hJ hb0 ⊢
  clear hw0 hN
  go_wp2_with (first | ((with_reducible show wpList _ _ _ (⟨some 12, _, _, _, _, _⟩ :: _) _ _); refine wpList_buildCells rfl 92 #[] rfl ZG hbg ?_) | ((with_reducible show wpList _ _ _ (⟨some 13, _, _, _, _, _⟩ :: _) _ _); refine wpList_boxB rfl 92 (.tmp 12) rfl ZG (by rfl) ?_; intro w1 b1 n1; have hJ1 := hJ.below b1 hJ.lt; have hB1 := hb0.trans (b1.mono (Nat.le_trans (Nat.le_of_eq HN.out) hb0.size)); have hNG : N < w0.heap.size := hJ.lt; obtain ⟨gb, hgb⟩ : ∃ z, z = w0.heap.size := ⟨_, rfl⟩; rw [← hgb] at n1 hNG; rw [← hgb]; clear hJ hb0 b1 hgb))
  have HNG : Hid (N ≤ gb) := by show N ≤ gb; omega
  go_cut [6] from 14 to 19 (fun p wx => ∃ fb g1 g2, p = .pointer (some ⟨fb, 0, none⟩) ∧ Hid (Blk wx N (j.map bv).toArray 23) ∧ Hid (Blk wx gb ZG 92) ∧ Hid (Blk wx fb ((chatF j d).cells (.slice (some ⟨g1, 0, none⟩) 4 4) (.slice (some ⟨g2, 0, none⟩) 3 3)).toArray 39) ∧ Hid (TrG wx g1 g2) ∧ Hid (Below N w wx))
  case first =>
    refine wp_region_held_drew (S := fun x => Blk x (N) (j.map bv).toArray 23 ∧ Blk x (gb) ZG 92 ∧ Below N w x) (by kernel_rfl) ⟨hJ1.drew, n1.drew, below_drewN hB1 1⟩ (fun hSq1 => ?_)
    refine wpAnyH_take (i := 0) (v := .pointer (some ⟨N, 0, none⟩)) rfl (by kernel_rfl) (by kernel_rfl) (by kernel_rfl) (fun _ _ _ h => h) (Or.inl ⟨by rfl, fun x hx => by go_simp⟩) hSq1 ?_
    simp only [Act.put, List.getElem_toArray, List.getElem_cons_zero, List.getElem_cons_succ, List.setIfInBounds_toArray, List.set_cons_zero, List.set_cons_succ]
    refine wpAnyH_take (i := 1) (v := bv (j.headD 0)) rfl (by kernel_rfl) (by kernel_rfl) (by kernel_rfl) (fun _ _ _ h => h) (Or.inl ⟨by rfl, fun x hx => by have hc := hx.1.cell 0 _ hj0; go_simp⟩) hSq1 ?_
    simp only [Act.put, List.getElem_toArray, List.getElem_cons_zero, List.getElem_cons_succ, List.setIfInBounds_toArray, List.set_cons_zero, List.set_cons_succ]
    refine wpAnyH_take (i := 2) rfl (by kernel_rfl) (by kernel_rfl) (by kernel_rfl) (fun _ _ _ h => h) (yieldsIf_build (by rfl) 23 #[(0, .const (.int .u8 7)), (1, .tmp 15)] rfl ((chatId j).map bv).toArray hbid) hSq1 ?_
    simp only [Act.put, List.getElem_toArray, List.getElem_cons_zero, List.getElem_cons_succ, List.setIfInBounds_toArray, List.set_cons_zero, List.set_cons_succ]
    refine wpAnyH_take (i := 3) (v := .int .i64 d) rfl (by kernel_rfl) (by kernel_rfl) (by kernel_rfl) (fun _ _ _ h => h) (Or.inl ⟨by rfl, fun x hx => by go_simp⟩) hSq1 ?_
    simp only [Act.put, List.getElem_toArray, List.getElem_cons_zero, List.getElem_cons_succ, List.setIfInBounds_toArray, List.set_cons_zero, List.set_cons_succ]
    refine wpAnyH_ready (rs := [4, 6]) (by kernel_rfl) (by simp) ?_
    refine AllReadyH.cons rfl (fun K hK => ?_) ?_
    · go_simp
      go_wp2_with (go_at_call 101; refine (cT _).mono ?_; rintro e yq2 ⟨g1, g2, rfl, HTI, bq3⟩)
      refine hK.out _ _ ⟨hSq1.1.below bq3 hSq1.1.lt, hSq1.2.1.below bq3 hSq1.2.1.lt, hSq1.2.2.trans (bq3.mono (Nat.le_trans (Nat.le_of_eq HN.out) hSq1.2.2.size))⟩ (fun hSq4 => ?_)
      clear hK K hSq1 bq3
      refine wpAnyH_take (i := 5) rfl (by kernel_rfl) (by kernel_rfl) (by kernel_rfl) (fun _ _ _ h => h) (yieldsIf_build (by rfl) 39 #[(0, .tmp 16), (2, .tmp 17), (3, .tmp 18)] rfl ((chatF j d).cells (.slice (some ⟨g1, 0, none⟩) 4 4) (.slice (some ⟨g2, 0, none⟩) 3 3)).toArray (hbrf _ _)) hSq4 ?_
      simp only [Act.put, List.getElem_toArray, List.getElem_cons_zero, List.getElem_cons_succ, List.setIfInBounds_toArray, List.set_cons_zero, List.set_cons_succ]
      refine wpAnyH_ready (rs := [6]) (by kernel_rfl) (by simp) ?_
      refine AllReadyH.cons rfl (fun K hK => ?_) AllReadyH.nil
      rw [if_pos (by rfl)]
      refine wp_allocZ 39 rfl (zeroF.cells (.slice none 0 0) (.slice none 0 0)).toArray Tryz.zeroRFr ?_
      intro gq8 yq6 egq9 ezq10 bq5 hEq7
      have lgq11 : N ≤ gq8 := by rw [egq9]; exact Nat.le_trans (Nat.le_of_eq HN.out) hSq4.2.2.size
      have lbq12 : N < gq8 := by rw [egq9]; exact hSq4.1.lt
      have lbq13 : gb < gq8 := by rw [egq9]; exact hSq4.2.1.lt
      have hHq14 := Lib.hid (HTI.out.below bq5)
      refine hK.out _ _ ⟨hSq4.1.below bq5 hSq4.1.lt, hSq4.2.1.below bq5 hSq4.2.1.lt, hSq4.2.2.trans (bq5.mono (Nat.le_trans (Nat.le_of_eq HN.out) hSq4.2.2.size))⟩ (fun hSq15 => ?_)
      clear hK K hSq4 bq5 egq9 ezq10
      refine wpAnyH_ready (rs := [7]) (by kernel_rfl) (by simp) ?_
      refine AllReadyH.cons rfl (fun K hK => ?_) AllReadyH.nil
      rw [if_pos (by rfl)]
      refine wp_storeBlk 39 (.tmp 6) (.tmp 19) rfl gq8 ((chatF j d).cells (.slice (some ⟨g1, 0, none⟩) 4 4) (.slice (some ⟨g2, 0, none⟩) 3 3)).toArray (by rfl) (by rfl) _ _ hEq7 (by rw [List.size_toArray, hfl]; exact Tryz.sizeRFrame) (by rw [List.size_toArray, List.size_toArray, hfl]; exact FrA.cells_len _ _ _) (HFA.out _ _) ?_
      intro yq16 hEq17 grq18
      have hHq19 := Lib.hid (hHq14.out.other grq18 hEq7 (by decide) (by decide))
      refine hK.out _ _ ⟨hSq15.1.grown grq18 (by first | (simp; done) | (simp; omega) | omega), hSq15.2.1.grown grq18 (by first | (simp; done) | (simp; omega) | omega), below_new hSq15.2.2 grq18 lgq11 (Nat.le_trans (Nat.le_of_eq HN.out) hSq15.2.2.size)⟩ (fun hSq20 => ?_)
      clear hK K hSq15
      refine wpAnyH_done (by kernel_rfl) ?_ _
      go_wp2_with fail
      go_meet
      exact ⟨gq8, _, _, rfl, hSq20.1, hSq20.2.1, hEq17, hHq19.out, hSq20.2.2⟩
    refine AllReadyH.cons rfl (fun K hK => ?_) AllReadyH.nil
    rw [if_pos (by rfl)]
    refine wp_allocZ 39 rfl (zeroF.cells (.slice none 0 0) (.slice none 0 0)).toArray Tryz.zeroRFr ?_
    intro gq24 yq22 egq25 ezq26 bq21 hEq23
    have lgq27 : N ≤ gq24 := by rw [egq25]; exact Nat.le_trans (Nat.le_of_eq HN.out) hSq1.2.2.size
    have lbq28 : N < gq24 := by rw [egq25]; exact hSq1.1.lt
    have lbq29 : gb < gq24 := by rw [egq25]; exact hSq1.2.1.lt
    refine hK.out _ _ ⟨hSq1.1.below bq21 hSq1.1.lt, hSq1.2.1.below bq21 hSq1.2.1.lt, hSq1.2.2.trans (bq21.mono (Nat.le_trans (Nat.le_of_eq HN.out) hSq1.2.2.size))⟩ (fun hSq30 => ?_)
    clear hK K hSq1 bq21 egq25 ezq26
    refine wpAnyH_ready (rs := [4]) (by kernel_rfl) (by simp) ?_
    refine AllReadyH.cons rfl (fun K hK => ?_) AllReadyH.nil
    go_simp
    go_wp2_with (go_at_call 101; refine (cT _).mono ?_; rintro e yq31 ⟨g1, g2, rfl, HTI, bq32⟩)
    have hEq33 := hEq23.below bq32 hEq23.lt
    refine hK.out _ _ ⟨hSq30.1.below bq32 hSq30.1.lt, hSq30.2.1.below bq32 hSq30.2.1.lt, hSq30.2.2.trans (bq32.mono (Nat.le_trans (Nat.le_of_eq HN.out) hSq30.2.2.size))⟩ (fun hSq34 => ?_)
    clear hK K hSq30 bq32
    refine wpAnyH_take (i := 5) rfl (by kernel_rfl) (by kernel_rfl) (by kernel_rfl) (fun _ _ _ h => h) (yieldsIf_build (by rfl) 39 #[(0, .tmp 16), (2, .tmp 17), (3, .tmp 18)] rfl ((chatF j d).cells (.slice (some ⟨g1, 0, none⟩) 4 4) (.slice (some ⟨g2, 0, none⟩) 3 3)).toArray (hbrf _ _)) hSq34 ?_
    simp only [Act.put, List.getElem_toArray, List.getElem_cons_zero, List.getElem_cons_succ, List.setIfInBounds_toArray, List.set_cons_zero, List.set_cons_succ]
    refine wpAnyH_ready (rs := [7]) (by kernel_rfl) (by simp) ?_
    refine AllReadyH.cons rfl (fun K hK => ?_) AllReadyH.nil
    rw [if_pos (by rfl)]
    refine wp_storeBlk 39 (.tmp 6) (.tmp 19) rfl gq24 ((chatF j d).cells (.slice (some ⟨g1, 0, none⟩) 4 4) (.slice (some ⟨g2, 0, none⟩) 3 3)).toArray (by rfl) (by rfl) _ _ hEq33 (by rw [List.size_toArray, hfl]; exact Tryz.sizeRFrame) (by rw [List.size_toArray, List.size_toArray, hfl]; exact FrA.cells_len _ _ _) (HFA.out _ _) ?_
    intro yq35 hEq36 grq37
    have hHq38 := Lib.hid (HTI.out.other grq37 hEq33 (by decide) (by decide))
    refine hK.out _ _ ⟨hSq34.1.grown grq37 (by first | (simp; done) | (simp; omega) | omega), hSq34.2.1.grown grq37 (by first | (simp; done) | (simp; omega) | omega), below_new hSq34.2.2 grq37 lgq27 (Nat.le_trans (Nat.le_of_eq HN.out) hSq34.2.2.size)⟩ (fun hSq39 => ?_)
    clear hK K hSq34
    refine wpAnyH_done (by kernel_rfl) ?_ _
    go_wp2_with fail
    go_meet
    exact ⟨gq24, _, _, rfl, hSq39.1, hSq39.2.1, hEq36, hHq38.out, hSq39.2.2⟩
  case rest =>
    obtain ⟨fb, g1, g2, rfl, hJ2, hG2, hF2, hT2, hB2⟩ := hcut
    have HLP : Hid (LpG j d w N gb fb g1 g2 1 [] [] wc) := ⟨hJ2.out, hF2.out, hT2.out, hgrp0 _ _ HNG.out hG2.out⟩
    clear hJ2 hG2 hF2 hT2 hgrp0 hbg cT hbid hbrf hJ1 n1 hB1
    go_wp2_with fail
    go_loopw [7] (fun nm wr => ∃ (i : Nat) (ms : List (Nat × EraM)) (rs : List RMemM), 1 ≤ i ∧ i ≤ 4 ∧ nm = .int .i64 i ∧ Hid (LpG j d w N gb fb g1 g2 i ms rs wr) ∧ Hid (Below N w wr)) (fun nm _ => 4 - (intOf nm).toNat)
    case atStart => exact ⟨1, [], [], by omega, by omega, rfl, HLP, hB2⟩
    case round =>
      clear HLP hB2
      obtain ⟨i, ms, rs, hi1, hi4, rfl, HL, HB⟩ := hrel
      by_cases hlt : i ≤ 3
      · have hL := HL.out
        have hB := HB.out
        have HI1 := Lib.hid hi1
        have HI3 := Lib.hid hlt
        clear HL HB
        go_wp2_with fail
        refine wp_region_held_drew (S := fun x => LpG j d w N gb fb g1 g2 i ms rs x ∧ Below N w x) (by kernel_rfl) ⟨hL.below (below_drewN (Below.refl _ _) 1), below_drewN hB 1⟩ (fun hSq40 => ?_)
        refine wpAnyH_take (i := 0) (v := .pointer (some ⟨fb, 0, none⟩)) rfl (by kernel_rfl) (by kernel_rfl) (by kernel_rfl) (fun _ _ _ h => h) (Or.inl ⟨by rfl, fun x hx => by go_simp⟩) hSq40 ?_
        simp only [Act.put, List.getElem_toArray, List.getElem_cons_zero, List.getElem_cons_succ, List.setIfInBounds_toArray, List.set_cons_zero, List.set_cons_succ]
        refine wpAnyH_take (i := 1) rfl (by kernel_rfl) (by kernel_rfl) (by kernel_rfl) (fun _ _ _ h => h) (yieldsIf_load_mid (by rfl) 23 (.tmp 25) rfl (fb) (0) (by rfl) (((chatId j).map bv)) _ (fun x hx => hid _ _ _ _ hx.1.pf) Tryz.underlying23 rfl (by rw [List.length_map, HCI.out]; exact Tryz.sizeHash)) hSq40 ?_
        simp only [Act.put, List.getElem_toArray, List.getElem_cons_zero, List.getElem_cons_succ, List.setIfInBounds_toArray, List.set_cons_zero, List.set_cons_succ]
        refine wpAnyH_take (i := 2) (v := .pointer (some ⟨fb, 64, none⟩)) rfl (by kernel_rfl) (by kernel_rfl) (by kernel_rfl) (fun _ _ _ h => h) (Or.inl ⟨by rfl, fun x hx => by go_simp⟩) hSq40 ?_
        simp only [Act.put, List.getElem_toArray, List.getElem_cons_zero, List.getElem_cons_succ, List.setIfInBounds_toArray, List.set_cons_zero, List.set_cons_succ]
        refine wpAnyH_take (i := 3) (v := .int .i64 d) rfl (by kernel_rfl) (by kernel_rfl) (by kernel_rfl) (fun _ _ _ h => h) (Or.inl ⟨by rfl, fun x hx => by have hc := hx.1.pf.cell 64 _ (hcd _ _); go_simp⟩) hSq40 ?_
        simp only [Act.put, List.getElem_toArray, List.getElem_cons_zero, List.getElem_cons_succ, List.setIfInBounds_toArray, List.set_cons_zero, List.set_cons_succ]
        refine wpAnyH_take (i := 4) (v := .pointer (some ⟨fb, 65, none⟩)) rfl (by kernel_rfl) (by kernel_rfl) (by kernel_rfl) (fun _ _ _ h => h) (Or.inl ⟨by rfl, fun x hx => by go_simp⟩) hSq40 ?_
        simp only [Act.put, List.getElem_toArray, List.getElem_cons_zero, List.getElem_cons_succ, List.setIfInBounds_toArray, List.set_cons_zero, List.set_cons_succ]
        refine wpAnyH_take (i := 5) rfl (by kernel_rfl) (by kernel_rfl) (by kernel_rfl) (fun _ _ _ h => h) (yieldsIf_load_mid (by rfl) 27 (.tmp 29) rfl (fb) (65) (by rfl) ([.slice (some ⟨g1, 0, none⟩) 4 4, .slice (some ⟨g2, 0, none⟩) 3 3]) _ (fun x hx => htr _ _ _ _ hx.1.pf) Tryz.underlying27 rfl (Tryz.sizeTree)) hSq40 ?_
        simp only [Act.put, List.getElem_toArray, List.getElem_cons_zero, List.getElem_cons_succ, List.setIfInBounds_toArray, List.set_cons_zero, List.set_cons_succ]
        refine wpAnyH_take (i := 6) rfl (by kernel_rfl) (by kernel_rfl) (by kernel_rfl) (fun _ _ _ h => h) (yieldsIf_build (by rfl) 53 #[(0, .tmp 26), (2, .tmp 28), (3, .tmp 30)] rfl ((chatF j d).cells (.slice (some ⟨g1, 0, none⟩) 4 4) (.slice (some ⟨g2, 0, none⟩) 3 3)).toArray (hbfr _ _)) hSq40 ?_
        simp only [Act.put, List.getElem_toArray, List.getElem_cons_zero, List.getElem_cons_succ, List.setIfInBounds_toArray, List.set_cons_zero, List.set_cons_succ]
        refine wpAnyH_take (i := 7) (v := .int .i64 i) rfl (by kernel_rfl) (by kernel_rfl) (by kernel_rfl) (fun _ _ _ h => h) (Or.inl ⟨by rfl, fun x hx => by go_simp⟩) hSq40 ?_
        simp only [Act.put, List.getElem_toArray, List.getElem_cons_zero, List.getElem_cons_succ, List.setIfInBounds_toArray, List.set_cons_zero, List.set_cons_succ]
        refine wpAnyH_take (i := 8) rfl (by kernel_rfl) (by kernel_rfl) (by kernel_rfl) (fun _ _ _ h => h) (yieldsIf_load_mid (by rfl) 23 (.tmp 2) rfl (N) (0) (by rfl) ((j.map bv)) _ (fun x hx => blk_rangeP hx.1.pj) Tryz.underlying23 rfl (by rw [List.length_map, HJ.out]; exact Tryz.sizeHash)) hSq40 ?_
        simp only [Act.put, List.getElem_toArray, List.getElem_cons_zero, List.getElem_cons_succ, List.setIfInBounds_toArray, List.set_cons_zero, List.set_cons_succ]
        refine wpAnyH_ready (rs := [9]) (by kernel_rfl) (by simp) ?_
        refine AllReadyH.cons rfl (fun K hK => ?_) AllReadyH.nil
        go_simp
        go_wp2_with (go_at_call 53; refine (cM _).mono ?_; rintro e yq41 ⟨rfl, bq42⟩)
        refine hK.out _ _ ⟨hSq40.1.below bq42, hSq40.2.trans (bq42.mono (Nat.le_trans (Nat.le_of_eq HN.out) hSq40.2.size))⟩ (fun hSq43 => ?_)
        clear hK K hSq40 bq42
        refine wpAnyH_ready (rs := [10]) (by kernel_rfl) (by simp) ?_
        refine AllReadyH.cons rfl (fun K hK => ?_) AllReadyH.nil
        go_simp
        go_wp2_with (go_at_call 52; refine (cE g1 g2 gb i ms rs _ HI1.out HI3.out hSq43.1.pt hSq43.1.pg (Nat.le_trans (Nat.le_of_eq HN.out) hSq43.2.size)).mono ?_; rintro e yq44 ⟨eb, M, rfl, HNE, bq45⟩)
        refine hK.out _ _ ⟨hSq43.1.below bq45, hSq43.2.trans (bq45.mono (Nat.le_trans (Nat.le_of_eq HN.out) hSq43.2.size))⟩ (fun hSq46 => ?_)
        clear hK K hSq43 bq45
        refine wpAnyH_take (i := 11) (v := .tuple #[.pointer (some ⟨eb, 0, none⟩), .int .i64 0]) rfl (by kernel_rfl) (by kernel_rfl) (by kernel_rfl) (fun _ _ _ h => h) (Or.inl ⟨by rfl, fun x hx => by go_simp⟩) hSq46 ?_
        simp only [Act.put, List.getElem_toArray, List.getElem_cons_zero, List.getElem_cons_succ, List.setIfInBounds_toArray, List.set_cons_zero, List.set_cons_succ]
        refine wpAnyH_take (i := 12) (v := .pointer (some ⟨eb, 0, none⟩)) rfl (by kernel_rfl) (by kernel_rfl) (by kernel_rfl) (fun _ _ _ h => h) (Or.inl ⟨by rfl, fun x hx => by go_simp⟩) hSq46 ?_
        simp only [Act.put, List.getElem_toArray, List.getElem_cons_zero, List.getElem_cons_succ, List.setIfInBounds_toArray, List.set_cons_zero, List.set_cons_succ]
        refine wpAnyH_take (i := 13) (v := .int .i64 0) rfl (by kernel_rfl) (by kernel_rfl) (by kernel_rfl) (fun _ _ _ h => h) (Or.inl ⟨by rfl, fun x hx => by go_simp⟩) hSq46 ?_
        simp only [Act.put, List.getElem_toArray, List.getElem_cons_zero, List.getElem_cons_succ, List.setIfInBounds_toArray, List.set_cons_zero, List.set_cons_succ]
        refine wpAnyH_ready (rs := [14]) (by kernel_rfl) (by simp) ?_
        refine AllReadyH.cons rfl (fun K hK => ?_) AllReadyH.nil
        go_simp
        refine hK.out _ _ hSq46 (fun hSq47 => ?_)
        clear hK K hSq46
        refine wpAnyH_ready (rs := [15]) (by kernel_rfl) (by simp) ?_
        refine AllReadyH.cons rfl (fun K hK => ?_) AllReadyH.nil
        go_simp
        refine hK.out _ _ hSq47 (fun hSq48 => ?_)
        clear hK K hSq47
        refine wpAnyH_done (by kernel_rfl) ?_ _
        have HL6 := Lib.hid (hSq48.1)
        have HB6 := Lib.hid (hSq48.2)
        have HNE6 : Hid (NewEra yq44 N ms eb M (eraG j d i)) := HNE.out
        have hL6 := HL6.out
        have hB6 := HB6.out
        clear hSq48 HNE
        go_wp2_with fail
        go_cut [10, 11] from 20 to 57 (fun p q wx => ∃ og M2, p = .pointer (some ⟨og, 0, none⟩) ∧ q = .int .i64 0 ∧ Hid (LpG j d w N gb fb g1 g2 i ms rs wx) ∧ Hid (Blk wx og (rerC M2 (memG j d i)).toArray 45) ∧ Hid (NewEra wx N ms eb M (eraG j d i)) ∧ Hid (RMemIs wx N M2 (memG j d i)) ∧ Hid (Below N w wx))
        case first =>
          refine wp_region_held_drew (S := fun x => LpG j d w N gb fb g1 g2 i ms rs x ∧ Below N w x) (by kernel_rfl) ⟨hL6.below (below_drewN (Below.refl _ _) 1), below_drewN hB6 1⟩ (fun hSq49 => ?_)
          have hHq50 := Lib.hid (HNE6.out.drew)
          refine wpAnyH_take (i := 0) rfl (by kernel_rfl) (by kernel_rfl) (by kernel_rfl) (fun _ _ _ h => h) (yieldsIf_load_mid (by rfl) 39 (.tmp 6) rfl (fb) (0) (by rfl) (((chatF j d).cells (.slice (some ⟨g1, 0, none⟩) 4 4) (.slice (some ⟨g2, 0, none⟩) 3 3))) _ (fun x hx => blk_rangeP hx.1.pf) Tryz.underlying39 rfl (by rw [hfl]; exact Tryz.sizeRFrame)) hSq49 ?_
          simp only [Act.put, List.getElem_toArray, List.getElem_cons_zero, List.getElem_cons_succ, List.setIfInBounds_toArray, List.set_cons_zero, List.set_cons_succ]
          refine wpAnyH_take (i := 1) (v := .int .i64 i) rfl (by kernel_rfl) (by kernel_rfl) (by kernel_rfl) (fun _ _ _ h => h) (Or.inl ⟨by rfl, fun x hx => by go_simp⟩) hSq49 ?_
          simp only [Act.put, List.getElem_toArray, List.getElem_cons_zero, List.getElem_cons_succ, List.setIfInBounds_toArray, List.set_cons_zero, List.set_cons_succ]
          refine wpAnyH_take (i := 2) rfl (by kernel_rfl) (by kernel_rfl) (by kernel_rfl) (fun _ _ _ h => h) (yieldsIf_load_mid (by rfl) 23 (.tmp 2) rfl (N) (0) (by rfl) ((j.map bv)) _ (fun x hx => blk_rangeP hx.1.pj) Tryz.underlying23 rfl (by rw [List.length_map, HJ.out]; exact Tryz.sizeHash)) hSq49 ?_
          simp only [Act.put, List.getElem_toArray, List.getElem_cons_zero, List.getElem_cons_succ, List.setIfInBounds_toArray, List.set_cons_zero, List.set_cons_succ]
          refine wpAnyH_ready (rs := [3, 8]) (by kernel_rfl) (by simp) ?_
          refine AllReadyH.cons rfl (fun K hK => ?_) ?_
          · go_simp
            go_wp2_with (go_at_call 55; refine (cM2 _).mono ?_; rintro e yq51 ⟨rfl, bq52⟩)
            have hHq53 := Lib.hid (hHq50.out.below bq52)
            refine hK.out _ _ ⟨hSq49.1.below bq52, hSq49.2.trans (bq52.mono (Nat.le_trans (Nat.le_of_eq HN.out) hSq49.2.size))⟩ (fun hSq54 => ?_)
            clear hK K hSq49 bq52
            refine wpAnyH_ready (rs := [4, 8]) (by kernel_rfl) (by simp) ?_
            refine AllReadyH.cons rfl (fun K hK => ?_) ?_
            · go_simp
              go_wp2_with (go_at_call 54; refine (cE2 g1 g2 i _ HI1.out HI3.out hSq54.1.pt (Nat.le_trans (Nat.le_of_eq HN.out) hSq54.2.size)).mono ?_; rintro e yq55 ⟨M2, rfl, HR2, bq56⟩)
              have hHq57 := Lib.hid (hHq53.out.below bq56)
              refine hK.out _ _ ⟨hSq54.1.below bq56, hSq54.2.trans (bq56.mono (Nat.le_trans (Nat.le_of_eq HN.out) hSq54.2.size))⟩ (fun hSq58 => ?_)
              clear hK K hSq54 bq56
              refine wpAnyH_take (i := 5) (v := .tuple #[.agg (rerC M2 (memG j d i)).toArray, .int .i64 0]) rfl (by kernel_rfl) (by kernel_rfl) (by kernel_rfl) (fun _ _ _ h => h) (Or.inl ⟨by rfl, fun x hx => by go_simp⟩) hSq58 ?_
              simp only [Act.put, List.getElem_toArray, List.getElem_cons_zero, List.getElem_cons_succ, List.setIfInBounds_toArray, List.set_cons_zero, List.set_cons_succ]
              refine wpAnyH_take (i := 6) (v := .agg (rerC M2 (memG j d i)).toArray) rfl (by kernel_rfl) (by kernel_rfl) (by kernel_rfl) (fun _ _ _ h => h) (Or.inl ⟨by rfl, fun x hx => by go_simp⟩) hSq58 ?_
              simp only [Act.put, List.getElem_toArray, List.getElem_cons_zero, List.getElem_cons_succ, List.setIfInBounds_toArray, List.set_cons_zero, List.set_cons_succ]
              refine wpAnyH_take (i := 7) (v := .int .i64 0) rfl (by kernel_rfl) (by kernel_rfl) (by kernel_rfl) (fun _ _ _ h => h) (Or.inl ⟨by rfl, fun x hx => by go_simp⟩) hSq58 ?_
              simp only [Act.put, List.getElem_toArray, List.getElem_cons_zero, List.getElem_cons_succ, List.setIfInBounds_toArray, List.set_cons_zero, List.set_cons_succ]
              refine wpAnyH_ready (rs := [8]) (by kernel_rfl) (by simp) ?_
              refine AllReadyH.cons rfl (fun K hK => ?_) AllReadyH.nil
              rw [if_pos (by rfl)]
              refine wp_allocZ 45 rfl _ Tryz.zeroREra ?_
              intro gq62 yq60 egq63 ezq64 bq59 hEq61
              have lgq65 : N ≤ gq62 := by rw [egq63]; exact Nat.le_trans (Nat.le_of_eq HN.out) hSq58.2.size
              have hHq66 := Lib.hid (hHq57.out.below bq59)
              have hHq67 := Lib.hid (HR2.out.below bq59)
              refine hK.out _ _ ⟨hSq58.1.below bq59, hSq58.2.trans (bq59.mono (Nat.le_trans (Nat.le_of_eq HN.out) hSq58.2.size))⟩ (fun hSq68 => ?_)
              clear hK K hSq58 bq59 egq63 ezq64
              refine wpAnyH_ready (rs := [9]) (by kernel_rfl) (by simp) ?_
              refine AllReadyH.cons rfl (fun K hK => ?_) AllReadyH.nil
              rw [if_pos (by rfl)]
              refine wp_storeBlk 45 (.tmp 10) (.tmp 44) rfl gq62 ((rerC M2 (memG j d i)).toArray) (by rfl) (by rfl) _ _ hEq61 (by rw [List.size_toArray, rerC_len]; exact Tryz.sizeREra) (by rw [List.size_toArray, List.size_toArray, rerC_len]; exact zeroRE_len) (rerC_all _ _) ?_
              intro yq69 hEq70 grq71
              have hHq73 := Lib.hid (hHq66.out.other grq71 hEq61 zeroRE_0 (by decide) (by decide) (by decide) (by decide) (by decide) (by decide))
              have hHq74 := Lib.hid (hHq67.out.other grq71 hEq61 (by decide) (by decide) (by decide) (by decide) (by decide))
              refine hK.out _ _ ⟨hSq68.1.other grq71 hEq61 zeroRE_0 (by decide) (by decide) (by decide) (by decide) (by decide) (by decide) (by decide) (by decide) (by decide) (by decide), below_new hSq68.2 grq71 lgq65 (Nat.le_trans (Nat.le_of_eq HN.out) hSq68.2.size)⟩ (fun hSq72 => ?_)
              clear hK K hSq68
              refine wpAnyH_ready (rs := [10]) (by kernel_rfl) (by simp) ?_
              refine AllReadyH.cons rfl (fun K hK => ?_) AllReadyH.nil
              go_simp
              refine hK.out _ _ hSq72 (fun hSq75 => ?_)
              clear hK K hSq72
              refine wpAnyH_done (by kernel_rfl) ?_ _
              go_wp2_with fail
              go_meet
              exact ⟨gq62, M2, rfl, rfl, hSq75.1, hEq70, hHq73.out, hHq74.out, hSq75.2⟩
            refine AllReadyH.cons rfl (fun K hK => ?_) AllReadyH.nil
            rw [if_pos (by rfl)]
            refine wp_allocZ 45 rfl _ Tryz.zeroREra ?_
            intro gq79 yq77 egq80 ezq81 bq76 hEq78
            have lgq82 : N ≤ gq79 := by rw [egq80]; exact Nat.le_trans (Nat.le_of_eq HN.out) hSq54.2.size
            have hHq83 := Lib.hid (hHq53.out.below bq76)
            refine hK.out _ _ ⟨hSq54.1.below bq76, hSq54.2.trans (bq76.mono (Nat.le_trans (Nat.le_of_eq HN.out) hSq54.2.size))⟩ (fun hSq84 => ?_)
            clear hK K hSq54 bq76 egq80 ezq81
            refine wpAnyH_ready (rs := [4]) (by kernel_rfl) (by simp) ?_
            refine AllReadyH.cons rfl (fun K hK => ?_) AllReadyH.nil
            go_simp
            go_wp2_with (go_at_call 54; refine (cE2 g1 g2 i _ HI1.out HI3.out hSq84.1.pt (Nat.le_trans (Nat.le_of_eq HN.out) hSq84.2.size)).mono ?_; rintro e yq85 ⟨M2, rfl, HR2, bq86⟩)
            have hEq87 := hEq78.below bq86 hEq78.lt
            have hHq88 := Lib.hid (hHq83.out.below bq86)
            refine hK.out _ _ ⟨hSq84.1.below bq86, hSq84.2.trans (bq86.mono (Nat.le_trans (Nat.le_of_eq HN.out) hSq84.2.size))⟩ (fun hSq89 => ?_)
            clear hK K hSq84 bq86
            refine wpAnyH_take (i := 5) (v := .tuple #[.agg (rerC M2 (memG j d i)).toArray, .int .i64 0]) rfl (by kernel_rfl) (by kernel_rfl) (by kernel_rfl) (fun _ _ _ h => h) (Or.inl ⟨by rfl, fun x hx => by go_simp⟩) hSq89 ?_
            simp only [Act.put, List.getElem_toArray, List.getElem_cons_zero, List.getElem_cons_succ, List.setIfInBounds_toArray, List.set_cons_zero, List.set_cons_succ]
            refine wpAnyH_take (i := 6) (v := .agg (rerC M2 (memG j d i)).toArray) rfl (by kernel_rfl) (by kernel_rfl) (by kernel_rfl) (fun _ _ _ h => h) (Or.inl ⟨by rfl, fun x hx => by go_simp⟩) hSq89 ?_
            simp only [Act.put, List.getElem_toArray, List.getElem_cons_zero, List.getElem_cons_succ, List.setIfInBounds_toArray, List.set_cons_zero, List.set_cons_succ]
            refine wpAnyH_take (i := 7) (v := .int .i64 0) rfl (by kernel_rfl) (by kernel_rfl) (by kernel_rfl) (fun _ _ _ h => h) (Or.inl ⟨by rfl, fun x hx => by go_simp⟩) hSq89 ?_
            simp only [Act.put, List.getElem_toArray, List.getElem_cons_zero, List.getElem_cons_succ, List.setIfInBounds_toArray, List.set_cons_zero, List.set_cons_succ]
            refine wpAnyH_ready (rs := [9]) (by kernel_rfl) (by simp) ?_
            refine AllReadyH.cons rfl (fun K hK => ?_) AllReadyH.nil
            rw [if_pos (by rfl)]
            refine wp_storeBlk 45 (.tmp 10) (.tmp 44) rfl gq79 ((rerC M2 (memG j d i)).toArray) (by rfl) (by rfl) _ _ hEq87 (by rw [List.size_toArray, rerC_len]; exact Tryz.sizeREra) (by rw [List.size_toArray, List.size_toArray, rerC_len]; exact zeroRE_len) (rerC_all _ _) ?_
            intro yq90 hEq91 grq92
            have hHq94 := Lib.hid (hHq88.out.other grq92 hEq87 zeroRE_0 (by decide) (by decide) (by decide) (by decide) (by decide) (by decide))
            have hHq95 := Lib.hid (HR2.out.other grq92 hEq87 (by decide) (by decide) (by decide) (by decide) (by decide))
            refine hK.out _ _ ⟨hSq89.1.other grq92 hEq87 zeroRE_0 (by decide) (by decide) (by decide) (by decide) (by decide) (by decide) (by decide) (by decide) (by decide) (by decide), below_new hSq89.2 grq92 lgq82 (Nat.le_trans (Nat.le_of_eq HN.out) hSq89.2.size)⟩ (fun hSq93 => ?_)
            clear hK K hSq89
            refine wpAnyH_ready (rs := [10]) (by kernel_rfl) (by simp) ?_
            refine AllReadyH.cons rfl (fun K hK => ?_) AllReadyH.nil
            go_simp
            refine hK.out _ _ hSq93 (fun hSq96 => ?_)
            clear hK K hSq93
            refine wpAnyH_done (by kernel_rfl) ?_ _
            go_wp2_with fail
            go_meet
            exact ⟨gq79, M2, rfl, rfl, hSq96.1, hEq91, hHq94.out, hHq95.out, hSq96.2⟩
          refine AllReadyH.cons rfl (fun K hK => ?_) AllReadyH.nil
          rw [if_pos (by rfl)]
          refine wp_allocZ 45 rfl _ Tryz.zeroREra ?_
          intro gq100 yq98 egq101 ezq102 bq97 hEq99
          have lgq103 : N ≤ gq100 := by rw [egq101]; exact Nat.le_trans (Nat.le_of_eq HN.out) hSq49.2.size
          have hHq104 := Lib.hid (hHq50.out.below bq97)
          refine hK.out _ _ ⟨hSq49.1.below bq97, hSq49.2.trans (bq97.mono (Nat.le_trans (Nat.le_of_eq HN.out) hSq49.2.size))⟩ (fun hSq105 => ?_)
          clear hK K hSq49 bq97 egq101 ezq102
          refine wpAnyH_ready (rs := [3]) (by kernel_rfl) (by simp) ?_
          refine AllReadyH.cons rfl (fun K hK => ?_) AllReadyH.nil
          go_simp
          go_wp2_with (go_at_call 55; refine (cM2 _).mono ?_; rintro e yq106 ⟨rfl, bq107⟩)
          have hEq108 := hEq99.below bq107 hEq99.lt
          have hHq109 := Lib.hid (hHq104.out.below bq107)
          refine hK.out _ _ ⟨hSq105.1.below bq107, hSq105.2.trans (bq107.mono (Nat.le_trans (Nat.le_of_eq HN.out) hSq105.2.size))⟩ (fun hSq110 => ?_)
          clear hK K hSq105 bq107
          refine wpAnyH_ready (rs := [4]) (by kernel_rfl) (by simp) ?_
          refine AllReadyH.cons rfl (fun K hK => ?_) AllReadyH.nil
          go_simp
          go_wp2_with (go_at_call 54; refine (cE2 g1 g2 i _ HI1.out HI3.out hSq110.1.pt (Nat.le_trans (Nat.le_of_eq HN.out) hSq110.2.size)).mono ?_; rintro e yq111 ⟨M2, rfl, HR2, bq112⟩)
          have hEq113 := hEq108.below bq112 hEq108.lt
          have hHq114 := Lib.hid (hHq109.out.below bq112)
          refine hK.out _ _ ⟨hSq110.1.below bq112, hSq110.2.trans (bq112.mono (Nat.le_trans (Nat.le_of_eq HN.out) hSq110.2.size))⟩ (fun hSq115 => ?_)
          clear hK K hSq110 bq112
          refine wpAnyH_take (i := 5) (v := .tuple #[.agg (rerC M2 (memG j d i)).toArray, .int .i64 0]) rfl (by kernel_rfl) (by kernel_rfl) (by kernel_rfl) (fun _ _ _ h => h) (Or.inl ⟨by rfl, fun x hx => by go_simp⟩) hSq115 ?_
          simp only [Act.put, List.getElem_toArray, List.getElem_cons_zero, List.getElem_cons_succ, List.setIfInBounds_toArray, List.set_cons_zero, List.set_cons_succ]
          refine wpAnyH_take (i := 6) (v := .agg (rerC M2 (memG j d i)).toArray) rfl (by kernel_rfl) (by kernel_rfl) (by kernel_rfl) (fun _ _ _ h => h) (Or.inl ⟨by rfl, fun x hx => by go_simp⟩) hSq115 ?_
          simp only [Act.put, List.getElem_toArray, List.getElem_cons_zero, List.getElem_cons_succ, List.setIfInBounds_toArray, List.set_cons_zero, List.set_cons_succ]
          refine wpAnyH_take (i := 7) (v := .int .i64 0) rfl (by kernel_rfl) (by kernel_rfl) (by kernel_rfl) (fun _ _ _ h => h) (Or.inl ⟨by rfl, fun x hx => by go_simp⟩) hSq115 ?_
          simp only [Act.put, List.getElem_toArray, List.getElem_cons_zero, List.getElem_cons_succ, List.setIfInBounds_toArray, List.set_cons_zero, List.set_cons_succ]
          refine wpAnyH_ready (rs := [9]) (by kernel_rfl) (by simp) ?_
          refine AllReadyH.cons rfl (fun K hK => ?_) AllReadyH.nil
          rw [if_pos (by rfl)]
          refine wp_storeBlk 45 (.tmp 10) (.tmp 44) rfl gq100 ((rerC M2 (memG j d i)).toArray) (by rfl) (by rfl) _ _ hEq113 (by rw [List.size_toArray, rerC_len]; exact Tryz.sizeREra) (by rw [List.size_toArray, List.size_toArray, rerC_len]; exact zeroRE_len) (rerC_all _ _) ?_
          intro yq116 hEq117 grq118
          have hHq120 := Lib.hid (hHq114.out.other grq118 hEq113 zeroRE_0 (by decide) (by decide) (by decide) (by decide) (by decide) (by decide))
          have hHq121 := Lib.hid (HR2.out.other grq118 hEq113 (by decide) (by decide) (by decide) (by decide) (by decide))
          refine hK.out _ _ ⟨hSq115.1.other grq118 hEq113 zeroRE_0 (by decide) (by decide) (by decide) (by decide) (by decide) (by decide) (by decide) (by decide) (by decide) (by decide), below_new hSq115.2 grq118 lgq103 (Nat.le_trans (Nat.le_of_eq HN.out) hSq115.2.size)⟩ (fun hSq119 => ?_)
          clear hK K hSq115
          refine wpAnyH_ready (rs := [10]) (by kernel_rfl) (by simp) ?_
          refine AllReadyH.cons rfl (fun K hK => ?_) AllReadyH.nil
          go_simp
          refine hK.out _ _ hSq119 (fun hSq122 => ?_)
          clear hK K hSq119
          refine wpAnyH_done (by kernel_rfl) ?_ _
          go_wp2_with fail
          go_meet
          exact ⟨gq100, M2, rfl, rfl, hSq122.1, hEq117, hHq120.out, hHq121.out, hSq122.2⟩
        case rest =>
          obtain ⟨og, M2, rfl, rfl, HL7, HO7, HNE7, HR7, HB7⟩ := hcut
          clear HL6 HB6 HNE6 hL6 hB6
          have hG7 := HL7.out.pg.blk
          have hi4 : i < 4 := by omega
          go_wp2_with ((with_reducible show wpList _ _ _ (⟨none, Op.store _ (.tmp 51) _, _, _, _, _⟩ :: _) _ _); refine wpList_store1 rfl 37 (.tmp 51) (.tmp 48) rfl gb i (.pointer (some ⟨eb, 0, none⟩)) (by rfl) (by rfl) _ _ hG7 (by rw [List.size_toArray, gC_len _ _ (pad_len _ _ (by rw [List.length_map, HL7.out.pg.lm]; exact HL7.out.pg.l3)) (pad_len _ _ (by rw [plainsG, List.length_map, List.length_zip, HL7.out.pg.lr, Nat.min_self]; exact HL7.out.pg.r3)) (plainsG_len _ _)]; omega) Tryz.sizePE rfl rfl ?_; intro w8 hK8 g8; have HM8 : Hid (MidG j d N gb fb g1 g2 i ms rs eb M og M2 w8) := MidG.make HL7.out HNE7.out HR7.out HO7.out HI1.out HI3.out hK8 g8; have HB8 := Lib.hid (HB7.out.grown g8 (Nat.le_trans (Nat.le_of_eq HN.out) HB7.out.size) (fun q e => by cases e; exact HNG.out)); clear HL7 HO7 HNE7 HR7 HB7 hG7 hK8 g8)
          have hM8 := HM8.out
          have hB8 := HB8.out
          have HSP := Lib.hid (HM8.out.split HI1.out HI3.out)
          clear HM8 HB8
          obtain ⟨A, B, C, e1, e2, e3, e4⟩ := HSP.out
          have hM9 : MidG j d N gb fb g1 g2 i ms rs eb M og M2 w8.drew := hM8.below (below_drewN (Below.refl _ _) 1)
          have hB9 : Below N w w8.drew := below_drewN hB8 1
          have hro := blk_rangeP hM8.po
          clear hM8 hB8 HSP
          simp only [Act.put, List.getElem_toArray, List.getElem_cons_zero, List.getElem_cons_succ, List.setIfInBounds_toArray, List.set_cons_zero, List.set_cons_succ]
          refine wp_still_store 6 (by kernel_rfl) (by kernel_rfl) ?_
          simp only [List.take_succ_cons, List.take_zero, List.drop_succ_cons, List.drop_zero]
          repeat (first | go_big_quiet_skip | ((with_reducible show wpQuiet _ _ _ _ (⟨some 54, _, _, _, _, _⟩ :: _) _); refine wpQuiet_loadMid (by rfl) 45 (.tmp 10) rfl og 0 (by rfl) (rerC M2 (memG j d i)) _ (fun y hy => by subst hy; exact hro) Tryz.underlying45 rfl (by rw [rerC_len]; exact Tryz.sizeREra) ?_; simp only [Act.put, List.getElem_toArray, List.getElem_cons_zero, List.getElem_cons_succ, List.setIfInBounds_toArray, List.set_cons_zero, List.set_cons_succ]) | (go_big_quiet_want; go_big_quiet_op; go_big_quiet_on))
          refine wpQuiet_nil ?_
          refine wpList_storeV rfl 45 (.tmp 57) (.tmp 54) rfl gb (4 + i * 266) (.agg (rerC M2 (memG j d i)).toArray) (by rfl) (by rfl) 92 _ A B C (rerC M2 (memG j d i)) hM9.pg e1 e2 (by rw [e3, rerC_len]) rfl (by have h := rerC_all M2 (memG j d i); rw [List.all_toArray, List.all_eq_true] at h; exact h) (by rw [rerC_len]; exact Tryz.sizeREra) ?_
          intro w9 hK9 g9
          have HLN : Hid (LpG j d w N gb fb g1 g2 (i + 1) (ms ++ [(eb, M)]) (rs ++ [M2]) w9) := MidG.done hM9 HI1.out HI3.out e4 hK9 g9
          have HBN := Lib.hid (hB9.grown g9 (Nat.le_trans (Nat.le_of_eq HN.out) hB9.size) (fun q e => by cases e; exact HNG.out))
          clear e1 e2 e3 e4 hK9 g9 hM9 hB9 hro
          go_wp2_with fail
          go_roundw
          case rel => exact ⟨i + 1, _, _, by omega, by omega, by go_num, HLN, HBN⟩
          case measure => simp [intOf]; omega
      · obtain rfl : i = 4 := by omega
        go_wp2_with fail
        go_returns
        rw [← HN.out]
        exact ⟨gb, ms, rs, rfl, HL.out.pg, HB.out⟩
end Go.Proofs.YtjlpdbaknhbgdaaGreat
