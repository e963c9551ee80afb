/-
  A book of one's own: what lies where; what a note changes.
-/
import Derived.Test.YtjjmcogdohnhjaaBookMark
set_option linter.unusedSimpArgs false
set_option linter.unusedVariables false
namespace Go.Proofs.Ytjjmcogdohnhjaa
open Go.RowKit

/-- All blocks but rows of these types and these maps are as they were. -/
def Frm (T : TypeId → Prop) (M : Nat → Prop) (w w' : World) : Prop :=
  w.heap.size ≤ w'.heap.size ∧ ∀ q ob, w.heap[q]? = some ob → (∀ cs t fz, ob = .cells cs t fz → ¬ T t) → (∀ es c, ob = .map es c → ¬ M q) → w'.heap[q]? = some ob
section
variable {T : TypeId → Prop} {M : Nat → Prop}
theorem Frm.refl (w : World) : Frm T M w w := ⟨Nat.le_refl _, fun _ _ h _ _ => h⟩
theorem Frm.trans {a b c : World} (h : Frm T M a b) (g : Frm T M b c) : Frm T M a c := ⟨Nat.le_trans h.1 g.1, fun q ob h1 h2 h3 => g.2 q ob (h.2 q ob h1 h2 h3) h2 h3⟩
theorem Frm.mono {T' : TypeId → Prop} {M' : Nat → Prop} {w w' : World} (h : Frm T M w w') (hT : ∀ t, T t → T' t) (hM : ∀ q, M q → M' q) : Frm T' M' w w' := ⟨h.1, fun q ob h1 h2 h3 => h.2 q ob h1 (fun cs t fz e ht => h2 cs t fz e (hT t ht)) (fun es c e hm => h3 es c e (hM q hm))⟩
theorem Frm.ofBelow {w w' : World} (b : Below w.heap.size w w') : Frm T M w w' := ⟨b.size, fun q ob h _ _ => (b.block q (Array.getElem?_eq_some_iff.1 h).1).trans h⟩
theorem Frm.below {a w w' : World} (h : Frm T M a w) (b : Below w.heap.size w w') : Frm T M a w' := h.trans (Frm.ofBelow b)
theorem Frm.drew {a w : World} (h : Frm T M a w) : Frm T M a w.drew := h
theorem Frm.grownNone {w w' : World} (g : w.grownBy w' none) : Frm T M w w' := ⟨g.size, fun q ob h _ _ => (g.block q (Array.getElem?_eq_some_iff.1 h).1 (by simp)).trans h⟩
theorem Frm.grownMap {ok : List UInt8 → Prop} {enc : List UInt8 → Value} {w w' : World} {b n : Nat} {look : List UInt8 → Option Value} (h : MapIs ok enc w b n look) (g : w.grownBy w' (some b)) (hM : M b) : Frm T M w w' :=
  ⟨g.size, fun q ob h1 _ h3 => (g.block q (Array.getElem?_eq_some_iff.1 h1).1 (fun e => by
    obtain rfl : q = b := by simpa using e
    obtain ⟨es, c, hb, _⟩ := h
    rw [h1] at hb
    exact h3 es c (by simpa using hb) hM)).trans h1⟩
theorem Frm.grownBlk {w w' : World} {b : Nat} {cs : Array Value} {t : TypeId} (h : Blk w b cs t) (g : w.grownBy w' (some b)) (hT : T t) : Frm T M w w' :=
  ⟨g.size, fun q ob h1 h2 _ => (g.block q (Array.getElem?_eq_some_iff.1 h1).1 (fun e => by
    obtain rfl : q = b := by simpa using e
    unfold Blk at h
    rw [h1] at h
    exact h2 _ _ _ (by simpa using h) hT)).trans h1⟩
theorem Frm.grownOwn {w w' : World} {base : Nat} {e : TypeId} {size n : Nat} {v : Value} {xs : List Value} (h : w.ownsRow base e size v n xs) (g : w.grownBy w' v.ownBlock) (hT : T e) : Frm T M w w' := by
  rcases h.2 with ⟨rfl, _⟩ | ⟨b, cap, cur, rfl, _, hg, _⟩
  · exact Frm.grownNone g
  · exact Frm.grownBlk (b := b) (cs := cur) (t := e) hg g hT
theorem Blk.frm {w w' : World} {b : Nat} {cs : Array Value} {t : TypeId} (h : Blk w b cs t) (f : Frm T M w w') (hT : ¬ T t) : Blk w' b cs t :=
  f.2 b _ h (fun cs' t' fz e => by cases e; exact hT) (fun es c e => by cases e)
theorem MapIs.frm {ok : List UInt8 → Prop} {enc : List UInt8 → Value} {w w' : World} {b n : Nat} {look : List UInt8 → Option Value} (h : MapIs ok enc w b n look) (f : Frm T M w w') (hM : ¬ M b) : MapIs ok enc w' b n look := by
  obtain ⟨es, c, hb, r⟩ := h
  exact ⟨es, c, f.2 b _ hb (fun cs t fz e => by cases e) (fun es c e => hM), r⟩
theorem own_frm {w w' : World} {base : Nat} {e : TypeId} {size n : Nat} {v : Value} {xs : List Value} (h : w.ownsRow base e size v n xs) (f : Frm T M w w') (hT : ¬ T e) : w'.ownsRow base e size v n xs := by
  refine ⟨h.1, ?_⟩
  rcases h.2 with h0 | ⟨b, cap, cur, rfl, h1, hg, h2⟩
  · exact .inl h0
  · exact .inr ⟨b, cap, cur, rfl, h1, f.2 b _ hg (fun cs t fz e => by cases e; exact hT) (fun es c e => by cases e), h2⟩
theorem HashOwn.frm {w w' : World} {base : Nat} {e : TypeId} {v : Value} {l : List HsT} (h : HashOwn w base e v l) (f : Frm T M w w') (hT : ¬ T e) : HashOwn w' base e v l := ⟨h.1, own_frm h.2 f hT⟩
end
theorem own_weak {w : World} {b1 b2 : Nat} {e : TypeId} {size n : Nat} {v : Value} {xs : List Value} (h : w.ownsRow b1 e size v n xs) (hb : b2 ≤ b1) : w.ownsRow b2 e size v n xs := by
  refine ⟨h.1, ?_⟩
  rcases h.2 with h0 | ⟨g, cap, cur, h1, h2, h3⟩
  · exact .inl h0
  · exact .inr ⟨g, cap, cur, h1, by omega, h3⟩
/-- append, with where the new row lies. -/
theorem wp_append_own3 {P : Program} {w : World} {o : Oper} {a : Act} {K : Act → World → Prop} {Q : Exit → Act → World → Prop} (s x : Operand) (t : TypeId)
    (ho : o.op = .call { callee := .builtin .append, args := #[s, x], argTypes := #[t, t] })
    (base : Nat) (e : TypeId) (i : TypeInfo) (z : Value) (size bytes : Nat) (ht : P.underlying t = some (.slice e)) (hi : P.info? e = some i) (hz : i.zero = some z)
    (hsize : i.size = size) (hby : i.bytes = bytes) (hzs : z.cells.size = size) (hsz : 0 < size)
    (v : Value) (n : Nat) (xs : List Value) (hs : a.eval s = v) (hown : w.ownsRow base e size v n xs)
    (ad : Addr) (m c : Nat) (news : List Value) (hx : a.eval x = .slice (some ad) m c) (hl : news.length = m * size) (hnews : ∀ j u, news[j]? = some u → w.cell? (ad.add j) = some u) (h1 : ∀ u ∈ news, u.oneCell' = true)
    (h63 : n + m ≤ maxLen) (hbytes : (n + m) * bytes ≤ 140737488355328) (hbase : base ≤ w.heap.size)
    (h : ∀ v' w', w'.ownsRow base e size v' (n + m) (xs ++ news) → w.grownBy w' v.ownBlock → (∀ q, v'.ownBlock = some q → v.ownBlock = some q ∨ w.heap.size ≤ q) → K (a.put o.dst v') w') : o.wp P a w K Q := by
  rcases hown.2 with ⟨rfl, rfl⟩ | ⟨g, cap, cur, rfl, hb, hg, hn, hm, hcs, htk⟩
  · have h0 : xs = [] := List.eq_nil_of_length_eq_zero (by rw [hown.1]; simp)
    subst h0
    refine wp_append_own w s x t ho w.heap.size e i z size bytes ht hi hz hsize hby hzs hsz _ 0 [] hs (World.ownsRow_nil _ _ _ _) ad m c news hx hl hnews h1 h63 hbytes (Nat.le_refl _) fun v' w' h2 h3 _ => ?_
    exact h v' w' (own_weak h2 hbase) h3 (fun q hq => .inr (h2.lt q hq).1)
  · by_cases hr : n + m ≤ cap
    · obtain ⟨w', hrun, h2, h3⟩ := run_append_fits (P := P) w base t o.type e i size ht hi hsize g n cap xs hown ad m c news hl hnews h1 hr
      unfold Oper.wp
      simp [execOp, ho, resolve, invoke, builtin, hs, hx, hrun, Result.andThen]
      exact h _ w' h2 h3 (fun q hq => .inl hq)
    · obtain ⟨v', w', hrun, h2, h3⟩ := run_append_arg_grows (P := P) w t o.type e i z size bytes ht hi hz hsize hby hzs hsz ⟨g, 0, none⟩ n cap xs hown.1 (fun j u hj => by have := hown.cells (g := g) rfl j u hj; exact this) ad m c news hl hnews (by omega) h63 hbytes
      unfold Oper.wp
      simp [execOp, ho, resolve, invoke, builtin, hs, hx, hrun, Result.andThen]
      exact h v' w' (own_weak h2 hbase) (grown_any h3 _) (fun q hq => .inr (h2.lt q hq).1)
/-- The map of who needs what: the rows of numbers are the book's own, each by itself. -/
structure NeedsLook (w : World) (base : Nat) (look : List UInt8 → Option Value) (nd : List UInt8 → List Nat) : Prop where
  some_ : ∀ h v, hashOk h → look h = some v → w.ownsRow base 3 1 v (nd h).length ((nd h).map iv)
  none_ : ∀ h, hashOk h → look h = none → nd h = []
  apart : ∀ h h' v v', hashOk h → hashOk h' → h ≠ h' → look h = some v → look h' = some v' → v.ownBlock = none ∨ v.ownBlock ≠ v'.ownBlock
def NeedsIs (w : World) (base nm : Nat) (nd : List UInt8 → List Nat) : Prop :=
  ∃ K look, MapIs hashOk hashEnc w nm K look ∧ NeedsLook w base look nd
/-- .. with the entry for h under way: v is its row. -/
def NeedsAt (w : World) (base nm : Nat) (nd : List UInt8 → List Nat) (h : List UInt8) (v : Value) (s : Nat) : Prop :=
  ∃ K look, MapIs hashOk hashEnc w nm K look ∧ StampAt hashEnc w nm s h ∧ NeedsLook w base (fun y => if y = h then some v else look y) nd
theorem NeedsLook.kept {w w' : World} {base : Nat} {look : List UInt8 → Option Value} {nd : List UInt8 → List Nat} {row : Option Nat} (h : NeedsLook w base look nd) (gr : w.grownBy w' row) (hr : ∀ x v, hashOk x → look x = some v → v.ownBlock = none ∨ v.ownBlock ≠ row) : NeedsLook w' base look nd :=
  ⟨fun x v hx hv => (h.some_ x v hx hv).kept gr (hr x v hx hv), h.none_, h.apart⟩
theorem NeedsLook.below {w w' : World} {base : Nat} {look : List UInt8 → Option Value} {nd : List UInt8 → List Nat} (h : NeedsLook w base look nd) (b : Below w.heap.size w w') : NeedsLook w' base look nd :=
  ⟨fun x v hx hv => own_below (h.some_ x v hx hv) b, h.none_, h.apart⟩
theorem NeedsIs.below {w w' : World} {base nm : Nat} {nd : List UInt8 → List Nat} (h : NeedsIs w base nm nd) (b : Below w.heap.size w w') : NeedsIs w' base nm nd := by
  obtain ⟨K, look, h1, h2⟩ := h
  exact ⟨K, look, h1.below b, h2.below b⟩
theorem NeedsIs.drew {w : World} {base nm : Nat} {nd : List UInt8 → List Nat} (h : NeedsIs w base nm nd) : NeedsIs w.drew base nm nd := h.below (below_drewN (Below.refl _ _) 1)
theorem NeedsAt.below {w w' : World} {base nm s : Nat} {nd : List UInt8 → List Nat} {x : List UInt8} {v : Value} (h : NeedsAt w base nm nd x v s) (b : Below w.heap.size w w') : NeedsAt w' base nm nd x v s := by
  obtain ⟨K, look, h1, h2, h3⟩ := h
  exact ⟨K, look, h1.below b, h2.below b, h3.below b⟩
theorem NeedsIs.frm {T : TypeId → Prop} {M : Nat → Prop} {w w' : World} {base nm : Nat} {nd : List UInt8 → List Nat} (h : NeedsIs w base nm nd) (f : Frm T M w w') (hT : ¬ T 3) (hM : ¬ M nm) : NeedsIs w' base nm nd := by
  obtain ⟨K, look, h1, h2⟩ := h
  exact ⟨K, look, h1.frm f hM, ⟨fun x v hx hv => own_frm (h2.some_ x v hx hv) f hT, h2.none_, h2.apart⟩⟩
theorem NeedsIs.congr {w : World} {base nm : Nat} {nd nd' : List UInt8 → List Nat} (h : NeedsIs w base nm nd) (e : ∀ x, hashOk x → nd x = nd' x) : NeedsIs w base nm nd' := by
  obtain ⟨K, look, h1, h2⟩ := h
  exact ⟨K, look, h1, ⟨fun x v hx hv => by rw [← e x hx]; exact h2.some_ x v hx hv, fun x hx hv => by rw [← e x hx]; exact h2.none_ x hx hv, h2.apart⟩⟩
section
variable {P : Program} {w : World} {o : Oper} {a : Act} {K : Act → World → Prop} {Q : Exit → Act → World → Prop}
/-- the entry. -/
theorem wp_needEntry (mk : MKey P 39 hashOk hashEnc) (m x : Operand) (t e : TypeId) (ho : o.op = .mapEntry t m x) (ht : P.underlying t = some (.map 39 e)) (hz : (zeroValue e).run P w = .ok (.slice none 0 0) w)
    (base nm : Nat) (nd : List UInt8 → List Nat) (hm : a.eval m = .map (some nm)) (hn : NeedsIs w base nm nd) (h : List UInt8) (hh : hashOk h) (hx : a.eval x = hashEnc h)
    (hK : ∀ v s w', NeedsAt w' base nm nd h v s → w.grownBy w' (some nm) → Frm (fun _ => False) (fun q => q = nm) w w' → K (a.put o.dst (.tuple #[v, .int .i64 (s : Nat)])) w') : o.wp P a w K Q := by
  obtain ⟨N, look, h1, h2⟩ := hn
  refine wp_mapEntry mk m x t e ho ht _ hz nm N look hm h1 h hh hx fun w' s g1 g2 g3 => ?_
  refine hK _ s w' ⟨_, _, g1, g2, ?_⟩ g3 (Frm.grownMap h1 g3 rfl)
  have hkeep : ∀ y v, hashOk y → look y = some v → w'.ownsRow base 3 1 v (nd y).length ((nd y).map iv) := fun y v hy hv => by
    have ho := h2.some_ y v hy hv
    exact ho.kept g3 (.inr (fun e => h1.own_ne ho e.symm))
  refine ⟨fun y v hy hv => ?_, fun y hy hv => ?_, fun y y' v v' hy hy' hne hv hv' => ?_⟩
  · try simp only at hv
    by_cases e : y = h
    · subst e
      rw [if_pos rfl] at hv
      obtain rfl : (look y).getD (.slice none 0 0) = v := by simpa using hv
      cases hl : look y with
      | none =>
        rw [h2.none_ y hy hl]
        exact World.ownsRow_nil _ _ _ _
      | some u => exact hkeep y u hy hl
    · rw [if_neg e, if_neg e] at hv
      exact hkeep y v hy hv
  · try simp only at hv
    by_cases e : y = h
    · rw [if_pos e] at hv; cases hv
    · rw [if_neg e, if_neg e] at hv
      exact h2.none_ y hy hv
  · try simp only at hv hv'
    by_cases e : y = h
    · subst e
      rw [if_pos rfl] at hv
      rw [if_neg (fun e => hne e.symm), if_neg (fun e => hne e.symm)] at hv'
      cases hl : look y with
      | none =>
        rw [hl] at hv
        obtain rfl : Value.slice none 0 0 = v := by simpa using hv
        exact .inl rfl
      | some u =>
        rw [hl] at hv
        obtain rfl : u = v := by simpa using hv
        exact h2.apart y y' _ _ hy hy' hne hl hv'
    · rw [if_neg e, if_neg e] at hv
      by_cases e' : y' = h
      · subst e'
        rw [if_pos rfl] at hv'
        cases hl : look y' with
        | none =>
          rw [hl] at hv'
          obtain rfl : Value.slice none 0 0 = v' := by simpa using hv'
          cases hb : v.ownBlock with
          | none => exact .inl rfl
          | some q => exact .inr (by simp [Value.ownBlock])
        | some u =>
          rw [hl] at hv'
          obtain rfl : u = v' := by simpa using hv'
          exact h2.apart y y' _ _ hy hy' hne hv hl
      · rw [if_neg e', if_neg e'] at hv'
        exact h2.apart y y' _ _ hy hy' hne hv hv'
/-- the append. -/
theorem wp_needAppend (s x : Operand) (t : TypeId) (ho : o.op = .call { callee := .builtin .append, args := #[s, x], argTypes := #[t, t] }) (ht : P.underlying t = some (.slice 3)) (hi : (P.info? 3).map (fun i => (i.zero, i.size, i.bytes)) = some (some (.int .i64 0), 1, 8))
    (base nm st : Nat) (nd : List UInt8 → List Nat) (h : List UInt8) (hh : hashOk h) (v : Value) (hs : a.eval s = v) (hn : NeedsAt w base nm nd h v st) (g c n : Nat) (hx : a.eval x = .slice (some ⟨g, 0, none⟩) 1 c) (e2 : TypeId) (hg : Blk w g #[iv n] e2) (hlen : (nd h).length ≤ 100000000) (hbase : base ≤ w.heap.size)
    (hK : ∀ v' w', NeedsAt w' base nm (fun y => if y = h then nd h ++ [n] else nd y) h v' st → Frm (fun t => t = 3) (fun _ => False) w w' → (∀ q, v.ownBlock = some q → base ≤ q) → w.grownBy w' v.ownBlock → w.ownsRow base 3 1 v (nd h).length ((nd h).map iv) → K (a.put o.dst v') w') : o.wp P a w K Q := by
  obtain ⟨N, look, h1, h2, h3⟩ := hn
  obtain ⟨i, hi1, hz, hsz, hby⟩ := info_parts hi
  have hv : w.ownsRow base 3 1 v (nd h).length ((nd h).map iv) := h3.some_ h v hh (by simp)
  refine wp_append_own3 s x t ho base 3 i (.int .i64 0) 1 8 ht hi1 hz hsz hby rfl (by decide) v _ _ hs hv ⟨g, 0, none⟩ 1 c [iv n] hx rfl (fun j u hj => ?_) (by simp [Value.oneCell']) (by unfold maxLen; omega) (by omega) hbase fun v' w' g1 g2 g3 => ?_
  · rw [Addr.add_lit, Nat.zero_add]
    exact hg.cell j u (by rw [← List.getElem?_toArray] at hj; exact hj)
  refine hK v' w' ⟨N, look, h1.kept g2 (h1.own_ne hv), h2.kept g2 (h1.own_ne hv), ?_⟩ (Frm.grownOwn hv g2 rfl) (fun q hq => (hv.lt q hq).1) g2 hv
  have hkeep : ∀ y u, hashOk y → y ≠ h → look y = some u → w.ownsRow base 3 1 u (nd y).length ((nd y).map iv) ∧ w'.ownsRow base 3 1 u (nd y).length ((nd y).map iv) := fun y u hy hne hu => by
    have ho := h3.some_ y u hy (by simp [hne, hu])
    exact ⟨ho, ho.kept g2 (h3.apart y h u v hy hh hne (by simp [hne, hu]) (by simp))⟩
  have hap : ∀ y u, hashOk y → y ≠ h → look y = some u → u.ownBlock = none ∨ u.ownBlock ≠ v'.ownBlock := fun y u hy hne hu => by
    cases hb : u.ownBlock with
    | none => exact .inl rfl
    | some q =>
      right
      intro e
      rcases g3 q e.symm with e1 | e1
      · rcases h3.apart y h u v hy hh hne (by simp [hne, hu]) (by simp) with e2 | e2
        · rw [hb] at e2; cases e2
        · exact e2 (by rw [hb, e1])
      · have := ((hkeep y u hy hne hu).1.lt q hb).2
        omega
  refine ⟨fun y u hy hu => ?_, fun y hy hu => ?_, fun y y' u u' hy hy' hne hu hu' => ?_⟩
  · try simp only at hu ⊢
    by_cases e : y = h
    · subst e
      rw [if_pos rfl] at hu ⊢
      obtain rfl : v' = u := by simpa using hu
      rw [List.length_append, List.map_append]
      exact g1
    · rw [if_neg e] at hu ⊢
      exact (hkeep y u hy e hu).2
  · try simp only at hu ⊢
    by_cases e : y = h
    · rw [if_pos e] at hu; cases hu
    · rw [if_neg e] at hu ⊢
      exact h3.none_ y hy (by simp [e, hu])
  · try simp only at hu hu'
    by_cases e : y = h
    · subst e
      rw [if_pos rfl] at hu
      rw [if_neg (fun e => hne e.symm)] at hu'
      obtain rfl : v' = u := by simpa using hu
      rcases hap y' u' hy' (fun e => hne e.symm) hu' with e1 | e1
      · cases hb : v'.ownBlock with
        | none => exact .inl rfl
        | some q => exact .inr (by rw [e1]; simp)
      · exact .inr (fun e => e1 e.symm)
    · rw [if_neg e] at hu
      by_cases e' : y' = h
      · subst e'
        rw [if_pos rfl] at hu'
        obtain rfl : v' = u' := by simpa using hu'
        exact hap y u hy e hu
      · rw [if_neg e'] at hu'
        exact h3.apart y y' u u' hy hy' hne (by simp [e, hu]) (by simp [e', hu'])
/-- the store into the entry. -/
theorem wp_needStore (mk : MKey P 39 hashOk hashEnc) (m st x : Operand) (t : TypeId) (ho : o.op = .entryStore t m st x) (base nm s : Nat) (nd : List UInt8 → List Nat) (h : List UInt8) (hh : hashOk h) (v : Value)
    (hm : a.eval m = .map (some nm)) (hst : a.eval st = .int .i64 (s : Nat)) (hx : a.eval x = v) (hn : NeedsAt w base nm nd h v s)
    (hK : ∀ w', NeedsIs w' base nm nd → w.grownBy w' (some nm) → Frm (fun _ => False) (fun q => q = nm) w w' → K (a.put o.dst undef) w') : o.wp P a w K Q := by
  obtain ⟨N, look, h1, h2, h3⟩ := hn
  refine wp_entryStore mk m st x t ho nm N s look hm h1 h hh h2 hst v hx fun w' g1 g2 => ?_
  refine hK w' ⟨N, _, g1, h3.kept g2 fun y u hy hu => ?_⟩ g2 (Frm.grownMap h1 g2 rfl)
  exact .inr (fun e => h1.own_ne (h3.some_ y u hy hu) e.symm)
end
/-- Facts in a row of the book's own. -/
def FactsOwn (w : World) (base : Nat) (v : Value) (fs : List FactT) : Prop :=
  ∃ cs : List (Value × Value), w.ownsRow base 44 2 v fs.length (cs.flatMap fun p => [p.1, p.2]) ∧ cs.length = fs.length ∧ ∀ (i : Nat) (f : FactT) (p : Value × Value), fs[i]? = some f → cs[i]? = some p → HashOwn w base 39 p.1 f.ins ∧ HashOwn w base 39 p.2 f.outs
theorem FactsOwn.frm {T : TypeId → Prop} {M : Nat → Prop} {w w' : World} {base : Nat} {v : Value} {fs : List FactT} (h : FactsOwn w base v fs) (f : Frm T M w w') (h1 : ¬ T 44) (h2 : ¬ T 39) : FactsOwn w' base v fs := by
  obtain ⟨cs, ho, hl, hc⟩ := h
  exact ⟨cs, own_frm ho f h1, hl, fun i g p hi hp => ⟨(hc i g p hi hp).1.frm f h2, (hc i g p hi hp).2.frm f h2⟩⟩
theorem pair_at : ∀ (cs : List (Value × Value)) (i : Nat) (p : Value × Value), cs[i]? = some p → (cs.flatMap fun p => [p.1, p.2])[i * 2]? = some p.1 ∧ (cs.flatMap fun p => [p.1, p.2])[i * 2 + 1]? = some p.2
  | [], i, p, h => by simp at h
  | q :: cs, 0, p, h => by
    obtain rfl : q = p := by simpa using h
    exact ⟨rfl, rfl⟩
  | q :: cs, i + 1, p, h => by
    have := pair_at cs i p (by simpa using h)
    rw [List.flatMap_cons, show (i + 1) * 2 = i * 2 + 1 + 1 by omega]
    exact this
theorem FactsOwn.at {w : World} {base : Nat} {v : Value} {fs : List FactT} (h : FactsOwn w base v fs) : FactsAt w v fs := by
  obtain ⟨cs, ho, hl, hc⟩ := h
  rcases ho.2 with ⟨h0, h1⟩ | ⟨g, cap, cur, rfl, hb, hg, h1, h2, h3, h4⟩
  · exact .inl ⟨List.eq_nil_of_length_eq_zero h1, none, h0⟩
  · refine .inr ⟨g, 0, cap, rfl, h1, lt_of_block hg, fun i f hi => ?_⟩
    have hlt : i < fs.length := (List.getElem?_eq_some_iff.1 hi).1
    obtain ⟨p, hp⟩ : ∃ p, cs[i]? = some p := ⟨cs[i]'(by omega), List.getElem?_eq_getElem _⟩
    obtain ⟨e1, e2⟩ := pair_at cs i p hp
    have hcell : ∀ j u, (cs.flatMap fun p => [p.1, p.2])[j]? = some u → w.cell? ⟨g, 0 + j, none⟩ = some u := fun j u hj => by
      have hj2 : j < fs.length * 2 := by rw [← ho.1]; exact (List.getElem?_eq_some_iff.1 hj).1
      rw [← h4, List.getElem?_take_of_lt hj2] at hj
      have : cur[j]? = some u := by simpa using hj
      simp [World.cell?, hg, this]
    obtain ⟨h5, h6⟩ := hc i f p hi hp
    exact ⟨p.1, p.2, hcell _ _ e1, hcell _ _ e2, h5.at, h6.at⟩
/-- What the seen marks say; what the names say. -/
def seenLook (fs : List FactT) (s : List UInt8) : Option Value := if s ∈ fs.map markT then some (.bool true) else none
/-- A book. -/
structure BookIs (w : World) (base b sm nm dm : Nat) (fs : List FactT) (names : List UInt8 → Option Value) : Prop where
  box : ∃ fv, Blk w b #[fv, .map (some sm), .map (some nm), .map (some dm)] 70 ∧ FactsOwn w base fv fs
  seen : ∃ K, MapIs strOk strEnc w sm K (seenLook fs)
  needs : NeedsIs w base nm (needsT fs)
  named : ∃ K, MapIs strOk strEnc w dm K names
  above : base ≤ b ∧ base ≤ sm ∧ base ≤ nm ∧ base ≤ dm
  apart : sm ≠ nm ∧ sm ≠ dm ∧ nm ≠ dm
theorem BookIs.frm {T : TypeId → Prop} {M : Nat → Prop} {w w' : World} {base b sm nm dm : Nat} {fs : List FactT} {names : List UInt8 → Option Value} (h : BookIs w base b sm nm dm fs names) (f : Frm T M w w') (hT : ¬ T 70 ∧ ¬ T 44 ∧ ¬ T 39 ∧ ¬ T 3) (hM : ¬ M sm ∧ ¬ M nm ∧ ¬ M dm) : BookIs w' base b sm nm dm fs names := by
  obtain ⟨⟨fv, h1, h2⟩, ⟨K, h3⟩, h4, ⟨L, h5⟩, h6, h7⟩ := h
  exact ⟨⟨fv, h1.frm f hT.1, h2.frm f hT.2.1 hT.2.2.1⟩, ⟨K, h3.frm f hM.1⟩, h4.frm f hT.2.2.2 hM.2.1, ⟨L, h5.frm f hM.2.2⟩, h6, h7⟩
theorem BookIs.below {w w' : World} {base b sm nm dm : Nat} {fs : List FactT} {names : List UInt8 → Option Value} (h : BookIs w base b sm nm dm fs names) (bl : Below w.heap.size w w') : BookIs w' base b sm nm dm fs names :=
  h.frm (T := fun _ => False) (M := fun _ => False) (Frm.ofBelow bl) ⟨id, id, id, id⟩ ⟨id, id, id⟩
theorem BookIs.rd {w : World} {base b sm nm dm : Nat} {fs : List FactT} {names : List UInt8 → Option Value} (h : BookIs w base b sm nm dm fs names) : BookRd w b fs := by
  obtain ⟨⟨fv, h1, h2⟩, -, ⟨K, look, h4, h5⟩, -, -, -⟩ := h
  refine ⟨fv, _, _, nm, K, look, h1, h2.at, h4, fun x hx => ?_⟩
  cases hl : look x with
  | none => exact .inl ⟨rfl, h5.none_ x hx hl⟩
  | some v => exact IntsAt.own (h5.some_ x v hx hl) rfl
end Go.Proofs.Ytjjmcogdohnhjaa
