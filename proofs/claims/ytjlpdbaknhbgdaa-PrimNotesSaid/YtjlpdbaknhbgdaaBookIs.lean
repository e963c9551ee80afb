/-
  A book of one's own: what lies where; what a note changes.
-/
import Derived.Test.YtjlpdbaknhbgdaaBookMark
set_option linter.unusedSimpArgs false
set_option linter.unusedVariables false
namespace Go.Proofs.Ytjlpdbaknhbgdaa
open Go.RowKit

/-- No block of these is the row's. -/
def NotIn (A : Nat → Prop) (v : Value) : Prop := ∀ q, v.ownBlock = some q → ¬ A q
theorem NotIn.nil (A : Nat → Prop) : NotIn A (.slice none 0 0) := fun q hq => by simp [Value.ownBlock] at hq
theorem NotIn.narrow {A A' : Nat → Prop} {v : Value} (h : NotIn A v) (hA : ∀ q, A' q → A q) : NotIn A' v := fun q hq ha => h q hq (hA q ha)
/-- All blocks but rows of these types and these maps are as they were; the blocks A are. -/
def Frm (A : Nat → Prop) (T : TypeId → Prop) (M : Nat → Prop) (w w' : World) : Prop :=
  (w.heap.size ≤ w'.heap.size ∧ ∀ q ob, w.heap[q]? = some ob → (∀ cs t fz, ob = .cells cs t fz → ¬ T t) → (∀ es c, ob = .map es c → ¬ M q) → w'.heap[q]? = some ob) ∧ ∀ q ob, A q → w.heap[q]? = some ob → w'.heap[q]? = some ob
section
variable {A : Nat → Prop} {T : TypeId → Prop} {M : Nat → Prop}
theorem Frm.size {w w' : World} (h : Frm A T M w w') : w.heap.size ≤ w'.heap.size := h.1.1
theorem Frm.refl (w : World) : Frm A T M w w := ⟨⟨Nat.le_refl _, fun _ _ h _ _ => h⟩, fun _ _ _ h => h⟩
theorem Frm.trans {a b c : World} (h : Frm A T M a b) (g : Frm A T M b c) : Frm A T M a c := ⟨⟨Nat.le_trans h.1.1 g.1.1, fun q ob h1 h2 h3 => g.1.2 q ob (h.1.2 q ob h1 h2 h3) h2 h3⟩, fun q ob ha h1 => g.2 q ob ha (h.2 q ob ha h1)⟩
theorem Frm.mono {T' : TypeId → Prop} {M' : Nat → Prop} {w w' : World} (h : Frm A T M w w') (hT : ∀ t, T t → T' t) (hM : ∀ q, M q → M' q) : Frm A T' M' w w' := ⟨⟨h.1.1, fun q ob h1 h2 h3 => h.1.2 q ob h1 (fun cs t fz e ht => h2 cs t fz e (hT t ht)) (fun es c e hm => h3 es c e (hM q hm))⟩, h.2⟩
theorem Frm.narrow {A' : Nat → Prop} {w w' : World} (h : Frm A T M w w') (hA : ∀ q, A' q → A q) : Frm A' T M w w' := ⟨h.1, fun q ob ha h1 => h.2 q ob (hA q ha) h1⟩
theorem Frm.ofBelow {w w' : World} (b : Below w.heap.size w w') : Frm A T M w w' := ⟨⟨b.size, fun q ob h _ _ => (b.block q (Array.getElem?_eq_some_iff.1 h).1).trans h⟩, fun q ob _ h => (b.block q (Array.getElem?_eq_some_iff.1 h).1).trans h⟩
theorem Frm.below {a w w' : World} (h : Frm A T M a w) (b : Below w.heap.size w w') : Frm A T M a w' := h.trans (Frm.ofBelow b)
theorem Frm.drew {a w : World} (h : Frm A T M a w) : Frm A T M a w.drew := h
theorem Frm.grownNone {w w' : World} (g : w.grownBy w' none) : Frm A T M w w' := ⟨⟨g.size, fun q ob h _ _ => (g.block q (Array.getElem?_eq_some_iff.1 h).1 (by simp)).trans h⟩, fun q ob _ h => (g.block q (Array.getElem?_eq_some_iff.1 h).1 (by simp)).trans h⟩
theorem Frm.grownMap {ok : List UInt8 → Prop} {enc : List UInt8 → Value} {w w' : World} {b n : Nat} {look : List UInt8 → Option Value} (h : MapIs ok enc w b n look) (g : w.grownBy w' (some b)) (hM : M b) (hA : ¬ A b) : Frm A T M w w' :=
  ⟨⟨g.size, fun q ob h1 _ h3 => (g.block q (Array.getElem?_eq_some_iff.1 h1).1 (fun e => by
    obtain rfl : q = b := by simpa using e
    obtain ⟨es, c, hb, _⟩ := h
    rw [h1] at hb
    exact h3 es c (by simpa using hb) hM)).trans h1⟩, fun q ob ha h1 => (g.block q (Array.getElem?_eq_some_iff.1 h1).1 (fun e => by
    obtain rfl : q = b := by simpa using e
    exact hA ha)).trans h1⟩
theorem Frm.grownBlk {w w' : World} {b : Nat} {cs : Array Value} {t : TypeId} (h : Blk w b cs t) (g : w.grownBy w' (some b)) (hT : T t) (hA : ¬ A b) : Frm A T M w w' :=
  ⟨⟨g.size, fun q ob h1 h2 _ => (g.block q (Array.getElem?_eq_some_iff.1 h1).1 (fun e => by
    obtain rfl : q = b := by simpa using e
    unfold Blk at h
    rw [h1] at h
    exact h2 _ _ _ (by simpa using h) hT)).trans h1⟩, fun q ob ha h1 => (g.block q (Array.getElem?_eq_some_iff.1 h1).1 (fun e => by
    obtain rfl : q = b := by simpa using e
    exact hA ha)).trans h1⟩
theorem Frm.grownOwn {w w' : World} {base : Nat} {e : TypeId} {size n : Nat} {v : Value} {xs : List Value} (h : w.ownsRow base e size v n xs) (g : w.grownBy w' v.ownBlock) (hT : T e) (hA : NotIn A v) : Frm A T M w w' := by
  rcases h.2 with ⟨rfl, _⟩ | ⟨b, cap, cur, rfl, _, hg, _⟩
  · exact Frm.grownNone g
  · exact Frm.grownBlk (b := b) (cs := cur) (t := e) hg g hT (hA b rfl)
theorem Blk.frm {w w' : World} {b : Nat} {cs : Array Value} {t : TypeId} (h : Blk w b cs t) (f : Frm A T M w w') (hT : ¬ T t) : Blk w' b cs t :=
  f.1.2 b _ h (fun cs' t' fz e => by cases e; exact hT) (fun es c e => by cases e)
theorem Blk.agr {w w' : World} {b : Nat} {cs : Array Value} {t : TypeId} (h : Blk w b cs t) (f : Frm A T M w w') (hA : A b) : Blk w' b cs t := f.2 b _ hA h
theorem MapIs.frm {ok : List UInt8 → Prop} {enc : List UInt8 → Value} {w w' : World} {b n : Nat} {look : List UInt8 → Option Value} (h : MapIs ok enc w b n look) (f : Frm A T M w w') (hM : ¬ M b) : MapIs ok enc w' b n look := by
  obtain ⟨es, c, hb, r⟩ := h
  exact ⟨es, c, f.1.2 b _ hb (fun cs t fz e => by cases e) (fun es c e => hM), r⟩
theorem own_frm {w w' : World} {base : Nat} {e : TypeId} {size n : Nat} {v : Value} {xs : List Value} (h : w.ownsRow base e size v n xs) (f : Frm A T M w w') (hT : ¬ T e) : w'.ownsRow base e size v n xs := by
  refine ⟨h.1, ?_⟩
  rcases h.2 with h0 | ⟨b, cap, cur, rfl, h1, hg, h2⟩
  · exact .inl h0
  · exact .inr ⟨b, cap, cur, rfl, h1, f.1.2 b _ hg (fun cs t fz e => by cases e; exact hT) (fun es c e => by cases e), h2⟩
theorem own_agr {w w' : World} {base : Nat} {e : TypeId} {size n : Nat} {v : Value} {xs : List Value} (h : w.ownsRow base e size v n xs) (f : Frm A T M w w') (hA : ∀ q, v.ownBlock = some q → A q) : w'.ownsRow base e size v n xs := by
  refine ⟨h.1, ?_⟩
  rcases h.2 with h0 | ⟨b, cap, cur, rfl, h1, hg, h2⟩
  · exact .inl h0
  · exact .inr ⟨b, cap, cur, rfl, h1, f.2 b _ (hA b rfl) hg, h2⟩
theorem HashOwn.frm {w w' : World} {base : Nat} {e : TypeId} {v : Value} {l : List HsT} (h : HashOwn w base e v l) (f : Frm A T M w w') (hT : ¬ T e) : HashOwn w' base e v l := ⟨h.1, own_frm h.2 f hT⟩
theorem HashOwn.agr {w w' : World} {base : Nat} {e : TypeId} {v : Value} {l : List HsT} (h : HashOwn w base e v l) (f : Frm A T M w w') (hA : ∀ q, v.ownBlock = some q → A q) : HashOwn w' base e v l := ⟨h.1, own_agr h.2 f hA⟩
end
theorem own_weak {w : World} {b1 b2 : Nat} {e : TypeId} {size n : Nat} {v : Value} {xs : List Value} (h : w.ownsRow b1 e size v n xs) (hb : b2 ≤ b1) : w.ownsRow b2 e size v n xs := by
  refine ⟨h.1, ?_⟩
  rcases h.2 with h0 | ⟨g, cap, cur, h1, h2, h3⟩
  · exact .inl h0
  · exact .inr ⟨g, cap, cur, h1, by omega, h3⟩
/-- append, with where the new row lies. -/
theorem wp_append_own3 {P : Program} {w : World} {o : Oper} {a : Act} {K : Act → World → Prop} {Q : Exit → Act → World → Prop} (s x : Operand) (t : TypeId)
    (ho : o.op = .call { callee := .builtin .append, args := #[s, x], argTypes := #[t, t] })
    (base : Nat) (e : TypeId) (i : TypeInfo) (z : Value) (size bytes : Nat) (ht : P.underlying t = some (.slice e)) (hi : P.info? e = some i) (hz : i.zero = some z)
    (hsize : i.size = size) (hby : i.bytes = bytes) (hzs : z.cells.size = size) (hsz : 0 < size)
    (v : Value) (n : Nat) (xs : List Value) (hs : a.eval s = v) (hown : w.ownsRow base e size v n xs)
    (ad : Addr) (m c : Nat) (news : List Value) (hx : a.eval x = .slice (some ad) m c) (hl : news.length = m * size) (hnews : ∀ j u, news[j]? = some u → w.cell? (ad.add j) = some u) (h1 : ∀ u ∈ news, u.oneCell' = true)
    (h63 : n + m ≤ maxLen) (hbytes : (n + m) * bytes ≤ 140737488355328) (hbase : base ≤ w.heap.size)
    (h : ∀ v' w', w'.ownsRow base e size v' (n + m) (xs ++ news) → w.grownBy w' v.ownBlock → (∀ q, v'.ownBlock = some q → v.ownBlock = some q ∨ w.heap.size ≤ q) → K (a.put o.dst v') w') : o.wp P a w K Q := by
  rcases hown.2 with ⟨rfl, rfl⟩ | ⟨g, cap, cur, rfl, hb, hg, hn, hm, hcs, htk⟩
  · have h0 : xs = [] := List.eq_nil_of_length_eq_zero (by rw [hown.1]; simp)
    subst h0
    refine wp_append_own w s x t ho w.heap.size e i z size bytes ht hi hz hsize hby hzs hsz _ 0 [] hs (World.ownsRow_nil _ _ _ _) ad m c news hx hl hnews h1 h63 hbytes (Nat.le_refl _) fun v' w' h2 h3 _ => ?_
    exact h v' w' (own_weak h2 hbase) h3 (fun q hq => .inr (h2.lt q hq).1)
  · by_cases hr : n + m ≤ cap
    · obtain ⟨w', hrun, h2, h3⟩ := run_append_fits (P := P) w base t o.type e i size ht hi hsize g n cap xs hown ad m c news hl hnews h1 hr
      unfold Oper.wp
      simp [execOp, ho, resolve, invoke, builtin, hs, hx, hrun, Result.andThen]
      exact h _ w' h2 h3 (fun q hq => .inl hq)
    · obtain ⟨v', w', hrun, h2, h3⟩ := run_append_arg_grows (P := P) w t o.type e i z size bytes ht hi hz hsize hby hzs hsz ⟨g, 0, none⟩ n cap xs hown.1 (fun j u hj => by have := hown.cells (g := g) rfl j u hj; exact this) ad m c news hl hnews (by omega) h63 hbytes
      unfold Oper.wp
      simp [execOp, ho, resolve, invoke, builtin, hs, hx, hrun, Result.andThen]
      exact h v' w' (own_weak h2 hbase) (grown_any h3 _) (fun q hq => .inr (h2.lt q hq).1)
/-- The map of who needs what: the rows of numbers are the book's own, each by itself. -/
structure NeedsLook (A : Nat → Prop) (w : World) (base : Nat) (look : List UInt8 → Option Value) (nd : List UInt8 → List Nat) : Prop where
  some_ : ∀ h v, hashOk h → look h = some v → w.ownsRow base 3 1 v (nd h).length ((nd h).map iv) ∧ NotIn A v
  none_ : ∀ h, hashOk h → look h = none → nd h = []
  apart : ∀ h h' v v', hashOk h → hashOk h' → h ≠ h' → look h = some v → look h' = some v' → v.ownBlock = none ∨ v.ownBlock ≠ v'.ownBlock
def NeedsIs (A : Nat → Prop) (w : World) (base nm : Nat) (nd : List UInt8 → List Nat) : Prop :=
  ∃ K look, MapIs hashOk hashEnc w nm K look ∧ NeedsLook A w base look nd ∧ ¬ A nm
/-- .. with the entry for h under way: v is its row. -/
def NeedsAt (A : Nat → Prop) (w : World) (base nm : Nat) (nd : List UInt8 → List Nat) (h : List UInt8) (v : Value) (s : Nat) : Prop :=
  ∃ K look, MapIs hashOk hashEnc w nm K look ∧ StampAt hashEnc w nm s h ∧ NeedsLook A w base (fun y => if y = h then some v else look y) nd ∧ ¬ A nm
theorem NeedsLook.kept {A : Nat → Prop} {w w' : World} {base : Nat} {look : List UInt8 → Option Value} {nd : List UInt8 → List Nat} {row : Option Nat} (h : NeedsLook A w base look nd) (gr : w.grownBy w' row) (hr : ∀ x v, hashOk x → look x = some v → v.ownBlock = none ∨ v.ownBlock ≠ row) : NeedsLook A w' base look nd :=
  ⟨fun x v hx hv => ⟨(h.some_ x v hx hv).1.kept gr (hr x v hx hv), (h.some_ x v hx hv).2⟩, h.none_, h.apart⟩
theorem NeedsLook.below {A : Nat → Prop} {w w' : World} {base : Nat} {look : List UInt8 → Option Value} {nd : List UInt8 → List Nat} (h : NeedsLook A w base look nd) (b : Below w.heap.size w w') : NeedsLook A w' base look nd :=
  ⟨fun x v hx hv => ⟨own_below (h.some_ x v hx hv).1 b, (h.some_ x v hx hv).2⟩, h.none_, h.apart⟩
theorem NeedsIs.below {A : Nat → Prop} {w w' : World} {base nm : Nat} {nd : List UInt8 → List Nat} (h : NeedsIs A w base nm nd) (b : Below w.heap.size w w') : NeedsIs A w' base nm nd := by
  obtain ⟨K, look, h1, h2, h3⟩ := h
  exact ⟨K, look, h1.below b, h2.below b, h3⟩
theorem NeedsIs.drew {A : Nat → Prop} {w : World} {base nm : Nat} {nd : List UInt8 → List Nat} (h : NeedsIs A w base nm nd) : NeedsIs A w.drew base nm nd := h.below (below_drewN (Below.refl _ _) 1)
theorem NeedsAt.below {A : Nat → Prop} {w w' : World} {base nm s : Nat} {nd : List UInt8 → List Nat} {x : List UInt8} {v : Value} (h : NeedsAt A w base nm nd x v s) (b : Below w.heap.size w w') : NeedsAt A w' base nm nd x v s := by
  obtain ⟨K, look, h1, h2, h3, h4⟩ := h
  exact ⟨K, look, h1.below b, h2.below b, h3.below b, h4⟩
theorem NeedsIs.frm {A A' : Nat → Prop} {T : TypeId → Prop} {M : Nat → Prop} {w w' : World} {base nm : Nat} {nd : List UInt8 → List Nat} (h : NeedsIs A w base nm nd) (f : Frm A' T M w w') (hT : ¬ T 3) (hM : ¬ M nm) : NeedsIs A w' base nm nd := by
  obtain ⟨K, look, h1, h2, h3⟩ := h
  exact ⟨K, look, h1.frm f hM, ⟨fun x v hx hv => ⟨own_frm (h2.some_ x v hx hv).1 f hT, (h2.some_ x v hx hv).2⟩, h2.none_, h2.apart⟩, h3⟩
theorem NeedsIs.congr {A : Nat → Prop} {w : World} {base nm : Nat} {nd nd' : List UInt8 → List Nat} (h : NeedsIs A w base nm nd) (e : ∀ x, hashOk x → nd x = nd' x) : NeedsIs A w base nm nd' := by
  obtain ⟨K, look, h1, h2, h3⟩ := h
  exact ⟨K, look, h1, ⟨fun x v hx hv => by rw [← e x hx]; exact h2.some_ x v hx hv, fun x hx hv => by rw [← e x hx]; exact h2.none_ x hx hv, h2.apart⟩, h3⟩
theorem NeedsIs.narrow {A A' : Nat → Prop} {w : World} {base nm : Nat} {nd : List UInt8 → List Nat} (h : NeedsIs A w base nm nd) (hA : ∀ q, A' q → A q) : NeedsIs A' w base nm nd := by
  obtain ⟨K, look, h1, h2, h3⟩ := h
  exact ⟨K, look, h1, ⟨fun x v hx hv => ⟨(h2.some_ x v hx hv).1, (h2.some_ x v hx hv).2.narrow hA⟩, h2.none_, h2.apart⟩, fun ha => h3 (hA _ ha)⟩
section
variable {A : Nat → Prop} {P : Program} {w : World} {o : Oper} {a : Act} {K : Act → World → Prop} {Q : Exit → Act → World → Prop}
/-- the entry. -/
theorem wp_needEntry (mk : MKey P 26 hashOk hashEnc) (m x : Operand) (t e : TypeId) (ho : o.op = .mapEntry t m x) (ht : P.underlying t = some (.map 26 e)) (hz : (zeroValue e).run P w = .ok (.slice none 0 0) w)
    (base nm : Nat) (nd : List UInt8 → List Nat) (hm : a.eval m = .map (some nm)) (hn : NeedsIs A w base nm nd) (h : List UInt8) (hh : hashOk h) (hx : a.eval x = hashEnc h)
    (hK : ∀ v s w', NeedsAt A w' base nm nd h v s → w.grownBy w' (some nm) → Frm A (fun _ => False) (fun q => q = nm) w w' → K (a.put o.dst (.tuple #[v, .int .i64 (s : Nat)])) w') : o.wp P a w K Q := by
  obtain ⟨N, look, h1, h2, h2A⟩ := hn
  refine wp_mapEntry mk m x t e ho ht _ hz nm N look hm h1 h hh hx fun w' s g1 g2 g3 => ?_
  refine hK _ s w' ⟨_, _, g1, g2, ?_, h2A⟩ g3 (Frm.grownMap h1 g3 rfl h2A)
  have hkeep : ∀ y v, hashOk y → look y = some v → w'.ownsRow base 3 1 v (nd y).length ((nd y).map iv) ∧ NotIn A v := fun y v hy hv => by
    have ho := h2.some_ y v hy hv
    exact ⟨ho.1.kept g3 (.inr (fun e => h1.own_ne ho.1 e.symm)), ho.2⟩
  refine ⟨fun y v hy hv => ?_, fun y hy hv => ?_, fun y y' v v' hy hy' hne hv hv' => ?_⟩
  · try simp only at hv
    by_cases e : y = h
    · subst e
      rw [if_pos rfl] at hv
      obtain rfl : (look y).getD (.slice none 0 0) = v := by simpa using hv
      cases hl : look y with
      | none =>
        rw [h2.none_ y hy hl]
        exact ⟨World.ownsRow_nil _ _ _ _, NotIn.nil A⟩
      | some u => exact hkeep y u hy hl
    · rw [if_neg e, if_neg e] at hv
      exact hkeep y v hy hv
  · try simp only at hv
    by_cases e : y = h
    · rw [if_pos e] at hv; cases hv
    · rw [if_neg e, if_neg e] at hv
      exact h2.none_ y hy hv
  · try simp only at hv hv'
    by_cases e : y = h
    · subst e
      rw [if_pos rfl] at hv
      rw [if_neg (fun e => hne e.symm), if_neg (fun e => hne e.symm)] at hv'
      cases hl : look y with
      | none =>
        rw [hl] at hv
        obtain rfl : Value.slice none 0 0 = v := by simpa using hv
        exact .inl rfl
      | some u =>
        rw [hl] at hv
        obtain rfl : u = v := by simpa using hv
        exact h2.apart y y' _ _ hy hy' hne hl hv'
    · rw [if_neg e, if_neg e] at hv
      by_cases e' : y' = h
      · subst e'
        rw [if_pos rfl] at hv'
        cases hl : look y' with
        | none =>
          rw [hl] at hv'
          obtain rfl : Value.slice none 0 0 = v' := by simpa using hv'
          cases hb : v.ownBlock with
          | none => exact .inl rfl
          | some q => exact .inr (by simp [Value.ownBlock])
        | some u =>
          rw [hl] at hv'
          obtain rfl : u = v' := by simpa using hv'
          exact h2.apart y y' _ _ hy hy' hne hv hl
      · rw [if_neg e', if_neg e'] at hv'
        exact h2.apart y y' _ _ hy hy' hne hv hv'
/-- the append. -/
theorem wp_needAppend (s x : Operand) (t : TypeId) (ho : o.op = .call { callee := .builtin .append, args := #[s, x], argTypes := #[t, t] }) (ht : P.underlying t = some (.slice 3)) (hi : (P.info? 3).map (fun i => (i.zero, i.size, i.bytes)) = some (some (.int .i64 0), 1, 8))
    (base nm st : Nat) (nd : List UInt8 → List Nat) (h : List UInt8) (hh : hashOk h) (v : Value) (hs : a.eval s = v) (hn : NeedsAt A w base nm nd h v st) (g c n : Nat) (hx : a.eval x = .slice (some ⟨g, 0, none⟩) 1 c) (e2 : TypeId) (hg : Blk w g #[iv n] e2) (hlen : (nd h).length ≤ 100000000) (hbase : base ≤ w.heap.size) (hAw : ∀ q, A q → q < w.heap.size)
    (hK : ∀ v' w', NeedsAt A w' base nm (fun y => if y = h then nd h ++ [n] else nd y) h v' st → Frm A (fun t => t = 3) (fun _ => False) w w' → (∀ q, v.ownBlock = some q → base ≤ q) → w.grownBy w' v.ownBlock → w.ownsRow base 3 1 v (nd h).length ((nd h).map iv) → K (a.put o.dst v') w') : o.wp P a w K Q := by
  obtain ⟨N, look, h1, h2, h3, h2A⟩ := hn
  obtain ⟨i, hi1, hz, hsz, hby⟩ := info_parts hi
  have hv : w.ownsRow base 3 1 v (nd h).length ((nd h).map iv) := (h3.some_ h v hh (by simp)).1
  have hvA : NotIn A v := (h3.some_ h v hh (by simp)).2
  refine wp_append_own3 s x t ho base 3 i (.int .i64 0) 1 8 ht hi1 hz hsz hby rfl (by decide) v _ _ hs hv ⟨g, 0, none⟩ 1 c [iv n] hx rfl (fun j u hj => ?_) (by simp [Value.oneCell']) (by unfold maxLen; omega) (by omega) hbase fun v' w' g1 g2 g3 => ?_
  · rw [Addr.add_lit, Nat.zero_add]
    exact hg.cell j u (by rw [← List.getElem?_toArray] at hj; exact hj)
  have hvA' : NotIn A v' := fun q hq ha => by
    rcases g3 q hq with e | e
    · exact hvA q e ha
    · have := hAw q ha; omega
  refine hK v' w' ⟨N, look, h1.kept g2 (h1.own_ne hv), h2.kept g2 (h1.own_ne hv), ?_, h2A⟩ (Frm.grownOwn hv g2 rfl hvA) (fun q hq => (hv.lt q hq).1) g2 hv
  have hkeep : ∀ y u, hashOk y → y ≠ h → look y = some u → w.ownsRow base 3 1 u (nd y).length ((nd y).map iv) ∧ w'.ownsRow base 3 1 u (nd y).length ((nd y).map iv) ∧ NotIn A u := fun y u hy hne hu => by
    have ho := h3.some_ y u hy (by simp [hne, hu])
    exact ⟨ho.1, ho.1.kept g2 (h3.apart y h u v hy hh hne (by simp [hne, hu]) (by simp)), ho.2⟩
  have hap : ∀ y u, hashOk y → y ≠ h → look y = some u → u.ownBlock = none ∨ u.ownBlock ≠ v'.ownBlock := fun y u hy hne hu => by
    cases hb : u.ownBlock with
    | none => exact .inl rfl
    | some q =>
      right
      intro e
      rcases g3 q e.symm with e1 | e1
      · rcases h3.apart y h u v hy hh hne (by simp [hne, hu]) (by simp) with e2 | e2
        · rw [hb] at e2; cases e2
        · exact e2 (by rw [hb, e1])
      · have := ((hkeep y u hy hne hu).1.lt q hb).2
        omega
  refine ⟨fun y u hy hu => ?_, fun y hy hu => ?_, fun y y' u u' hy hy' hne hu hu' => ?_⟩
  · try simp only at hu ⊢
    by_cases e : y = h
    · subst e
      rw [if_pos rfl] at hu ⊢
      obtain rfl : v' = u := by simpa using hu
      rw [List.length_append, List.map_append]
      exact ⟨g1, hvA'⟩
    · rw [if_neg e] at hu ⊢
      exact (hkeep y u hy e hu).2
  · try simp only at hu ⊢
    by_cases e : y = h
    · rw [if_pos e] at hu; cases hu
    · rw [if_neg e] at hu ⊢
      exact h3.none_ y hy (by simp [e, hu])
  · try simp only at hu hu'
    by_cases e : y = h
    · subst e
      rw [if_pos rfl] at hu
      rw [if_neg (fun e => hne e.symm)] at hu'
      obtain rfl : v' = u := by simpa using hu
      rcases hap y' u' hy' (fun e => hne e.symm) hu' with e1 | e1
      · cases hb : v'.ownBlock with
        | none => exact .inl rfl
        | some q => exact .inr (by rw [e1]; simp)
      · exact .inr (fun e => e1 e.symm)
    · rw [if_neg e] at hu
      by_cases e' : y' = h
      · subst e'
        rw [if_pos rfl] at hu'
        obtain rfl : v' = u' := by simpa using hu'
        exact hap y u hy e hu
      · rw [if_neg e'] at hu'
        exact h3.apart y y' u u' hy hy' hne (by simp [e, hu]) (by simp [e', hu'])
/-- the store into the entry. -/
theorem wp_needStore (mk : MKey P 26 hashOk hashEnc) (m st x : Operand) (t : TypeId) (ho : o.op = .entryStore t m st x) (base nm s : Nat) (nd : List UInt8 → List Nat) (h : List UInt8) (hh : hashOk h) (v : Value)
    (hm : a.eval m = .map (some nm)) (hst : a.eval st = .int .i64 (s : Nat)) (hx : a.eval x = v) (hn : NeedsAt A w base nm nd h v s)
    (hK : ∀ w', NeedsIs A w' base nm nd → w.grownBy w' (some nm) → Frm A (fun _ => False) (fun q => q = nm) w w' → K (a.put o.dst undef) w') : o.wp P a w K Q := by
  obtain ⟨N, look, h1, h2, h3, h2A⟩ := hn
  refine wp_entryStore mk m st x t ho nm N s look hm h1 h hh h2 hst v hx fun w' g1 g2 => ?_
  refine hK w' ⟨N, _, g1, h3.kept g2 fun y u hy hu => ?_, h2A⟩ g2 (Frm.grownMap h1 g2 rfl h2A)
  exact .inr (fun e => h1.own_ne (h3.some_ y u hy hu).1 e.symm)
end
/-- Facts in a row of the book's own. -/
def FactsOwn (A : Nat → Prop) (w : World) (base : Nat) (v : Value) (fs : List FactT) : Prop :=
  ∃ cs : List (Value × Value), w.ownsRow base 68 2 v fs.length (cs.flatMap fun p => [p.1, p.2]) ∧ cs.length = fs.length ∧ (∀ (i : Nat) (f : FactT) (p : Value × Value), fs[i]? = some f → cs[i]? = some p → (HashOwn w base 26 p.1 f.ins ∧ HashOwn w base 26 p.2 f.outs) ∧ NotIn A p.1 ∧ NotIn A p.2) ∧ NotIn A v
theorem FactsOwn.frm {A A' : Nat → Prop} {T : TypeId → Prop} {M : Nat → Prop} {w w' : World} {base : Nat} {v : Value} {fs : List FactT} (h : FactsOwn A w base v fs) (f : Frm A' T M w w') (h1 : ¬ T 68) (h2 : ¬ T 26) : FactsOwn A w' base v fs := by
  obtain ⟨cs, ho, hl, hc, hA⟩ := h
  exact ⟨cs, own_frm ho f h1, hl, fun i g p hi hp => ⟨⟨(hc i g p hi hp).1.1.frm f h2, (hc i g p hi hp).1.2.frm f h2⟩, (hc i g p hi hp).2⟩, hA⟩
theorem FactsOwn.narrow {A A' : Nat → Prop} {w : World} {base : Nat} {v : Value} {fs : List FactT} (h : FactsOwn A w base v fs) (hA : ∀ q, A' q → A q) : FactsOwn A' w base v fs := by
  obtain ⟨cs, ho, hl, hc, h0⟩ := h
  exact ⟨cs, ho, hl, fun i g p hi hp => ⟨(hc i g p hi hp).1, (hc i g p hi hp).2.1.narrow hA, (hc i g p hi hp).2.2.narrow hA⟩, h0.narrow hA⟩
theorem pair_at : ∀ (cs : List (Value × Value)) (i : Nat) (p : Value × Value), cs[i]? = some p → (cs.flatMap fun p => [p.1, p.2])[i * 2]? = some p.1 ∧ (cs.flatMap fun p => [p.1, p.2])[i * 2 + 1]? = some p.2
  | [], i, p, h => by simp at h
  | q :: cs, 0, p, h => by
    obtain rfl : q = p := by simpa using h
    exact ⟨rfl, rfl⟩
  | q :: cs, i + 1, p, h => by
    have := pair_at cs i p (by simpa using h)
    rw [List.flatMap_cons, show (i + 1) * 2 = i * 2 + 1 + 1 by omega]
    exact this
theorem FactsOwn.at {A : Nat → Prop} {w : World} {base : Nat} {v : Value} {fs : List FactT} (h : FactsOwn A w base v fs) : FactsAt w v fs := by
  obtain ⟨cs, ho, hl, hc, -⟩ := h
  rcases ho.2 with ⟨h0, h1⟩ | ⟨g, cap, cur, rfl, hb, hg, h1, h2, h3, h4⟩
  · exact .inl ⟨List.eq_nil_of_length_eq_zero h1, none, h0⟩
  · refine .inr ⟨g, 0, cap, rfl, h1, lt_of_block hg, fun i f hi => ?_⟩
    have hlt : i < fs.length := (List.getElem?_eq_some_iff.1 hi).1
    obtain ⟨p, hp⟩ : ∃ p, cs[i]? = some p := ⟨cs[i]'(by omega), List.getElem?_eq_getElem _⟩
    obtain ⟨e1, e2⟩ := pair_at cs i p hp
    have hcell : ∀ j u, (cs.flatMap fun p => [p.1, p.2])[j]? = some u → w.cell? ⟨g, 0 + j, none⟩ = some u := fun j u hj => by
      have hj2 : j < fs.length * 2 := by rw [← ho.1]; exact (List.getElem?_eq_some_iff.1 hj).1
      rw [← h4, List.getElem?_take_of_lt hj2] at hj
      have : cur[j]? = some u := by simpa using hj
      simp [World.cell?, hg, this]
    obtain ⟨⟨h5, h6⟩, -⟩ := hc i f p hi hp
    exact ⟨p.1, p.2, hcell _ _ e1, hcell _ _ e2, h5.at, h6.at⟩
/-- What the seen marks say; what the names say. -/
def seenLook (fs : List FactT) (s : List UInt8) : Option Value := if s ∈ fs.map markB then some (.bool true) else none
/-- A book. -/
structure BookIs (A : Nat → Prop) (w : World) (base b sm nm dm : Nat) (fs : List FactT) (names : List UInt8 → Option Value) : Prop where
  box : ∃ fv, Blk w b #[fv, .map (some sm), .map (some nm), .map (some dm)] 64 ∧ FactsOwn A w base fv fs
  seen : ∃ K, MapIs strOk strEnc w sm K (seenLook fs)
  needs : NeedsIs A w base nm (needsT fs)
  named : ∃ K, MapIs strOk strEnc w dm K names
  above : base ≤ b ∧ base ≤ sm ∧ base ≤ nm ∧ base ≤ dm
  apart : sm ≠ nm ∧ sm ≠ dm ∧ nm ≠ dm
  out : ¬ A b ∧ ¬ A sm ∧ ¬ A nm ∧ ¬ A dm
theorem BookIs.frm {A A' : Nat → Prop} {T : TypeId → Prop} {M : Nat → Prop} {w w' : World} {base b sm nm dm : Nat} {fs : List FactT} {names : List UInt8 → Option Value} (h : BookIs A w base b sm nm dm fs names) (f : Frm A' T M w w') (hT : ¬ T 64 ∧ ¬ T 68 ∧ ¬ T 26 ∧ ¬ T 3) (hM : ¬ M sm ∧ ¬ M nm ∧ ¬ M dm) : BookIs A w' base b sm nm dm fs names := by
  obtain ⟨⟨fv, h1, h2⟩, ⟨K, h3⟩, h4, ⟨L, h5⟩, h6, h7, h8⟩ := h
  exact ⟨⟨fv, h1.frm f hT.1, h2.frm f hT.2.1 hT.2.2.1⟩, ⟨K, h3.frm f hM.1⟩, h4.frm f hT.2.2.2 hM.2.1, ⟨L, h5.frm f hM.2.2⟩, h6, h7, h8⟩
theorem BookIs.below {A : Nat → Prop} {w w' : World} {base b sm nm dm : Nat} {fs : List FactT} {names : List UInt8 → Option Value} (h : BookIs A w base b sm nm dm fs names) (bl : Below w.heap.size w w') : BookIs A w' base b sm nm dm fs names :=
  h.frm (A' := fun _ => False) (T := fun _ => False) (M := fun _ => False) (Frm.ofBelow bl) ⟨id, id, id, id⟩ ⟨id, id, id⟩
theorem BookIs.rd {A : Nat → Prop} {w : World} {base b sm nm dm : Nat} {fs : List FactT} {names : List UInt8 → Option Value} (h : BookIs A w base b sm nm dm fs names) : BookRd w b fs := by
  obtain ⟨⟨fv, h1, h2⟩, -, ⟨K, look, h4, h5, -⟩, -, -, -⟩ := h
  refine ⟨fv, _, _, nm, K, look, h1, h2.at, h4, fun x hx => ?_⟩
  cases hl : look x with
  | none => exact .inl ⟨rfl, h5.none_ x hx hl⟩
  | some v => exact IntsAt.own (h5.some_ x v hx hl).1 rfl
theorem BookIs.narrow {A A' : Nat → Prop} {w : World} {base b sm nm dm : Nat} {fs : List FactT} {names : List UInt8 → Option Value} (h : BookIs A w base b sm nm dm fs names) (hA : ∀ q, A' q → A q) : BookIs A' w base b sm nm dm fs names := by
  obtain ⟨⟨fv, h1, h2⟩, h3, h4, h5, h6, h7, h8⟩ := h
  exact ⟨⟨fv, h1, h2.narrow hA⟩, h3, h4.narrow hA, h5, h6, h7, fun e => h8.1 (hA _ e), fun e => h8.2.1 (hA _ e), fun e => h8.2.2.1 (hA _ e), fun e => h8.2.2.2 (hA _ e)⟩
/-- Blocks that are not there yet are none of the book's. -/
theorem BookIs.widen {A : Nat → Prop} {w : World} {base b sm nm dm : Nat} {fs : List FactT} {names : List UInt8 → Option Value} (h : BookIs A w base b sm nm dm fs names) {A' : Nat → Prop} (hA : ∀ q, A' q → A q ∨ w.heap.size ≤ q) : BookIs A' w base b sm nm dm fs names := by
  obtain ⟨⟨fv, h1, cs, g1, g2, g3, g4⟩, ⟨K3, h3⟩, ⟨K, look, h4, h5, h5A⟩, ⟨K6, h6⟩, h7, h8, h9⟩ := h
  have hn : ∀ q, q < w.heap.size → ¬ A q → ¬ A' q := fun q hq hnA ha => by
    rcases hA q ha with e | e
    · exact hnA e
    · omega
  have hno : ∀ {e : TypeId} {size n : Nat} {v : Value} {xs : List Value}, w.ownsRow base e size v n xs → NotIn A v → NotIn A' v := fun ho hv q hq => hn q (ho.lt q hq).2 (hv q hq)
  refine ⟨⟨fv, h1, cs, g1, g2, fun i g p hi hp => ?_, hno g1 g4⟩, ⟨K3, h3⟩, ⟨K, look, h4, ⟨fun x v hx hv => ?_, h5.none_, h5.apart⟩, hn nm h4.lt h5A⟩, ⟨K6, h6⟩, h7, h8, hn b h1.lt h9.1, hn sm h3.lt h9.2.1, hn nm h4.lt h9.2.2.1, hn dm h6.lt h9.2.2.2⟩
  · obtain ⟨⟨e1, e2⟩, e3, e4⟩ := g3 i g p hi hp
    exact ⟨⟨e1, e2⟩, hno e1.2 e3, hno e2.2 e4⟩
  · exact ⟨(h5.some_ x v hx hv).1, hno (h5.some_ x v hx hv).1 (h5.some_ x v hx hv).2⟩
/-- A write into a block that is none of the book's. -/
theorem BookIs.apart_ {A : Nat → Prop} {w w' : World} {base b sm nm dm : Nat} {fs : List FactT} {names : List UInt8 → Option Value} (h : BookIs A w base b sm nm dm fs names) {r : Nat} (hr : A r) (g : w.grownBy w' (some r)) : BookIs A w' base b sm nm dm fs names := by
  obtain ⟨⟨fv, h1, cs, g1, g2, g3, g4⟩, ⟨K3, h3⟩, ⟨K, look, h4, h5, h5A⟩, ⟨K6, h6⟩, h7, h8, h9⟩ := h
  have hne : ∀ q, ¬ A q → some q ≠ some r := fun q hq e => hq (by rw [Option.some.inj e]; exact hr)
  have hno : ∀ {e : TypeId} {size n : Nat} {v : Value} {xs : List Value}, w.ownsRow base e size v n xs → NotIn A v → w'.ownsRow base e size v n xs := fun {e size n v xs} ho hv => ho.kept g (by
    cases hq : v.ownBlock with
    | none => exact .inl rfl
    | some q => exact .inr (fun e2 => hne q (hv q hq) e2))
  refine ⟨⟨fv, h1.grown g (hne b h9.1), cs, hno g1 g4, g2, fun i f p hi hp => ?_, g4⟩, ⟨K3, h3.kept g (hne sm h9.2.1)⟩, ⟨K, look, h4.kept g (hne nm h5A), ⟨fun x v hx hv => ?_, h5.none_, h5.apart⟩, h5A⟩, ⟨K6, h6.kept g (hne dm h9.2.2.2)⟩, h7, h8, h9⟩
  · obtain ⟨⟨e1, e2⟩, e3, e4⟩ := g3 i f p hi hp
    exact ⟨⟨⟨e1.1, hno e1.2 e3⟩, ⟨e2.1, hno e2.2 e4⟩⟩, e3, e4⟩
  · exact ⟨hno (h5.some_ x v hx hv).1 (h5.some_ x v hx hv).2, (h5.some_ x v hx hv).2⟩
end Go.Proofs.Ytjlpdbaknhbgdaa
