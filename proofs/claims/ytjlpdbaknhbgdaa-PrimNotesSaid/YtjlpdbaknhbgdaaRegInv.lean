/-
  A region that draws its order, walked operation by operation and not order by order: each operation is shown once, from what it waits for alone.
-/
import Derived.OrdersHeld
import Derived.Deep.RegionHeld
set_option linter.unusedSimpArgs false
set_option linter.unusedVariables false
namespace Go.Proofs.Ytjlpdbaknhbgdaa
open Go

section
variable {P : Program} {ops : Array Oper} {Q : Exit → Act → World → Prop}

/-- The slot of operation j. -/
def dstAt (ops : Array Oper) (j : Nat) : Option Tmp := (ops[j]?).bind (·.dst)
/-- The frame with the values of these operations in their slots. -/
def putsL (A : Act) (vs : Nat → Value) : List (Option Tmp × Nat) → Act
  | [] => A
  | p :: l => putsL (A.put p.1 (vs p.2)) vs l
/-- What these operations' values are known to be. -/
def AllR (R : Nat → Value → World → Prop) (vs : Nat → Value) (w : World) : List (Option Tmp × Nat) → Prop
  | [] => True
  | p :: l => R p.2 (vs p.2) w ∧ AllR R vs w l
theorem AllR.of {R : Nat → Value → World → Prop} {vs : Nat → Value} {w : World} : ∀ {l : List (Option Tmp × Nat)}, (∀ p ∈ l, R p.2 (vs p.2) w) → AllR R vs w l
  | [], _ => trivial
  | p :: l, h => ⟨h p List.mem_cons_self, AllR.of fun q hq => h q (List.mem_cons_of_mem _ hq)⟩
def onOf (listed : Array Bool) (j : Nat) : Bool := listed.getD j false
def slotAt (ops : Array Oper) (on : Nat → Bool) (A : Act) (vs : Nat → Value) (t : Nat) : Option Value :=
  match (List.range ops.size).find? (fun j => on j && (dstAt ops j == some t)) with
  | some j => (A.tmps[t]?).map (fun _ => vs j)
  | none => A.tmps[t]?
structure Rep (ops : Array Oper) (on : Nat → Bool) (A : Act) (vs : Nat → Value) (a : Act) : Prop where
  defers : a.defers = A.defers
  tmps : ∀ t, a.tmps[t]? = slotAt ops on A vs t

/-- Operation j waits for operation i. -/
def edgeOn (ops : Array Oper) (j i : Nat) : Bool := match ops[j]? with
  | none => false
  | some o => o.after.any fun e => Region.binds .any e && e.on == i
def fitOp (ops : Array Oper) (i : Nat) (d : List (Option Tmp × Nat)) : Bool := match ops[i]? with
  | none => false
  | some o => d.all (fun p => (p.1 == dstAt ops p.2) && edgeOn ops i p.2 && decide (p.2 < ops.size)) && o.after.all (fun e => decide (e.on < i)) &&
    (o.looksAt ops).all fun t => (List.range ops.size).all fun j => j == i || dstAt ops j != some t || d.any (fun p => p.2 == j) || edgeOn ops j i
def loneDst (ops : Array Oper) : Bool := (List.range ops.size).all fun i => (List.range ops.size).all fun j => i == j || dstAt ops i == none || dstAt ops i != dstAt ops j
def noSelB (ops : Array Oper) : Bool := Region.noSelect ops
def rises : List (Option Tmp × Nat) → Bool
  | [] => true
  | p :: l => l.all (fun q => q.2 != p.2) && rises l
def fitL (ops : Array Oper) (D : List (List (Option Tmp × Nat))) (F : List (Option Tmp × Nat)) : Bool :=
  Region.noSelect ops && loneDst ops && (List.range ops.size).all (fun i => fitOp ops i (D.getD i []) && rises (D.getD i [])) &&
    decide (F = (List.range ops.size).map fun j => (dstAt ops j, j))

theorem loneDst_spec (h : loneDst ops = true) {i j : Nat} {t : Tmp} (hi : i < ops.size) (hj : j < ops.size) (h1 : dstAt ops i = some t) (h2 : dstAt ops j = some t) : i = j := by
  simp only [loneDst, List.all_eq_true, List.mem_range] at h
  have := h i hi j hj
  simp [h1, h2] at this
  exact this
theorem dstAt_lt {j : Nat} {t : Tmp} (h : dstAt ops j = some t) : j < ops.size := by
  rcases Nat.lt_or_ge j ops.size with h' | h'
  · exact h'
  · simp [dstAt, Array.getElem?_eq_none h'] at h
theorem find_none {l : List Nat} {p : Nat → Bool} (h : ∀ j ∈ l, p j = false) : l.find? p = none := by
  rw [List.find?_eq_none]
  exact fun j hj => by rw [h j hj]; simp
theorem find_only {l : List Nat} {p : Nat → Bool} {i : Nat} (hi : i ∈ l) (hp : p i = true) (h : ∀ j ∈ l, p j = true → j = i) : l.find? p = some i := by
  cases e : l.find? p with
  | none => rw [List.find?_eq_none] at e; exact absurd hp (e i hi)
  | some j =>
    have := List.find?_some e
    rw [h j (List.mem_of_find?_eq_some e) this]

theorem slot_on (hl : loneDst ops = true) {on : Nat → Bool} {A : Act} {vs : Nat → Value} {t : Tmp} {j : Nat} (hj : dstAt ops j = some t) (ho : on j = true) : slotAt ops on A vs t = (A.tmps[t]?).map fun _ => vs j := by
  unfold slotAt
  rw [find_only (i := j) (List.mem_range.2 (dstAt_lt hj)) (by simp [ho, hj]) (fun k hk hp => by
    simp at hp
    exact loneDst_spec hl (List.mem_range.1 hk) (dstAt_lt hj) hp.2 hj)]
theorem slot_off (hl : loneDst ops = true) {on : Nat → Bool} {A : Act} {vs : Nat → Value} {t : Tmp} (h : ∀ j, dstAt ops j = some t → on j = false) : slotAt ops on A vs t = A.tmps[t]? := by
  unfold slotAt
  rw [find_none (fun j hj => by
    by_cases e : dstAt ops j = some t
    · simp [h j e]
    · simp [e])]

theorem put_tmps (A : Act) (d : Option Tmp) (v : Value) (t : Tmp) : (A.put d v).tmps[t]? = if d = some t then (A.tmps[t]?).map (fun _ => v) else A.tmps[t]? := by
  cases d with
  | none => simp [Act.put]
  | some e =>
    simp only [Act.put]
    by_cases h : e = t
    · subst h
      by_cases hs : e < A.tmps.size
      · simp [hs]
      · simp [hs]
    · rw [Array.getElem?_setIfInBounds_ne h, if_neg (by simpa using h)]
theorem put_defs (A : Act) (d : Option Tmp) (v : Value) : (A.put d v).defers = A.defers := by cases d <;> rfl
theorem putsL_defers : ∀ (l : List (Option Tmp × Nat)) (A : Act) (vs : Nat → Value), (putsL A vs l).defers = A.defers
  | [], _, _ => rfl
  | p :: l, A, vs => (putsL_defers l _ vs).trans (put_defs _ _ _)
/-- A slot that none of these fills. -/
theorem putsL_off : ∀ (l : List (Option Tmp × Nat)) (A : Act) (vs : Nat → Value) (t : Tmp), (∀ p ∈ l, p.1 ≠ some t) → (putsL A vs l).tmps[t]? = A.tmps[t]?
  | [], _, _, _, _ => rfl
  | p :: l, A, vs, t, h => by
    rw [putsL, putsL_off l _ vs t (fun q hq => h q (List.mem_cons_of_mem _ hq)), put_tmps, if_neg (h p List.mem_cons_self)]
/-- A slot that just one of these fills. -/
theorem putsL_on : ∀ (l : List (Option Tmp × Nat)) (A : Act) (vs : Nat → Value) (t : Tmp) (j : Nat), (some t, j) ∈ l → (∀ p ∈ l, p.1 = some t → p.2 = j) → (putsL A vs l).tmps[t]? = (A.tmps[t]?).map fun _ => vs j
  | [], _, _, _, _, h, _ => by cases h
  | p :: l, A, vs, t, j, h, hu => by
    rw [putsL]
    by_cases hm : (some t, j) ∈ l
    · rw [putsL_on l _ vs t j hm (fun q hq => hu q (List.mem_cons_of_mem _ hq)), put_tmps]
      split
      · simp [Option.map_map, Function.comp_def]
      · rfl
    · rcases List.mem_cons.1 h with rfl | h
      · rw [putsL_off l _ vs t (fun q hq e => hm (by
          have := hu q (List.mem_cons_of_mem _ hq) e
          obtain ⟨a, b⟩ := q
          simp at e this
          subst e; subst this; exact hq)), put_tmps, if_pos rfl]
      · exact absurd h hm

theorem edgeOn_spec {i j : Nat} {o : Oper} (ho : ops[j]? = some o) (h : edgeOn ops j i = true) : ∃ e ∈ o.after, Region.binds .any e = true ∧ e.on = i := by
  simp only [edgeOn, ho, Array.any_eq_true'] at h
  obtain ⟨e, he, h⟩ := h
  simp at h
  exact ⟨e, he, h⟩

structure Closed (ops : Array Oper) (listed : Array Bool) : Prop where
  size : listed.size = ops.size
  after : ∀ j o, ops[j]? = some o → onOf listed j = true → ∀ e ∈ o.after, Region.binds .any e = true → onOf listed e.on = true

/-- What an operation looks at is what stands in the frame of those that it waits for. -/
theorem looks_same {listed : Array Bool} {A a : Act} {vs : Nat → Value} {i : Nat} {o : Oper} {d : List (Option Tmp × Nat)} (hl : loneDst ops = true) (ho : ops[i]? = some o) (hf : fitOp ops i d = true)
    (hc : Closed ops listed) (hr : i ∈ Region.ready .any ops listed) (rep : Rep ops (onOf listed) A vs a) : ∀ t ∈ o.looksAt ops, a.tmps[t]? = (putsL A vs d).tmps[t]? := by
  intro t ht
  rw [rep.tmps]
  simp only [fitOp, ho, Bool.and_eq_true, List.all_eq_true] at hf
  obtain ⟨⟨hd, _⟩, hlk⟩ := hf
  obtain ⟨hun, o', ho', hall⟩ := mem_ready.1 hr
  rw [ho] at ho'
  obtain rfl := Option.some.inj ho'
  have hun' : onOf listed i = false := by
    unfold onOf
    rcases Nat.lt_or_ge i listed.size with h' | h'
    · simp [h'] at hun ⊢; exact hun
    · simp [Array.getElem?_eq_none h'] at hun
  have hd1 : ∀ p ∈ d, p.1 = dstAt ops p.2 ∧ onOf listed p.2 = true ∧ p.2 < ops.size := fun p hp => by
    have := hd p hp
    simp only [beq_iff_eq, decide_eq_true_eq] at this
    obtain ⟨e, he, hb, he2⟩ := edgeOn_spec ho this.1.2
    exact ⟨this.1.1, he2 ▸ hall e he hb, this.2⟩
  by_cases hex : ∃ j, dstAt ops j = some t
  · obtain ⟨j, hj⟩ := hex
    have h1 := hlk t ht j (List.mem_range.2 (dstAt_lt hj))
    simp only [Bool.or_eq_true, beq_iff_eq, bne_iff_ne, hj, ne_eq, not_true, or_false, List.any_eq_true] at h1
    by_cases hon : onOf listed j = true
    · have hmem : (some t, j) ∈ d := by
        rcases h1 with (h1 | ⟨p, hp, e⟩) | h1
        · rw [h1, hun'] at hon; cases hon
        · have := (hd1 p hp).1
          rw [e, hj] at this
          obtain ⟨x, y⟩ := p
          simp at this e
          subst this; subst e; exact hp
        · have hjlt := dstAt_lt hj
          obtain ⟨oj, hoj⟩ : ∃ oj, ops[j]? = some oj := ⟨_, Array.getElem?_eq_getElem hjlt⟩
          obtain ⟨e, he, hb, rfl⟩ := edgeOn_spec hoj h1
          have := hc.after j oj hoj hon e he hb
          rw [hun'] at this; cases this
      rw [slot_on hl hj hon, putsL_on d A vs t j hmem (fun p hp e => by
        have := hd1 p hp
        exact loneDst_spec hl this.2.2 (dstAt_lt hj) (this.1.symm.trans e) hj)]
    · have hoff : onOf listed j = false := by cases h : onOf listed j <;> simp_all
      rw [slot_off hl (fun k hk => by rw [loneDst_spec hl (dstAt_lt hk) (dstAt_lt hj) hk hj]; exact hoff)]
      rw [putsL_off d A vs t (fun p hp e => by
        have := hd1 p hp
        have h2 := loneDst_spec hl this.2.2 (dstAt_lt hj) (this.1.symm.trans e) hj
        rw [h2, hoff] at this
        exact absurd this.2.1 (by simp))]
  · rw [slot_off hl (fun k hk => absurd ⟨k, hk⟩ hex), putsL_off d A vs t (fun p hp e => hex ⟨p.2, (hd1 p hp).1.symm.trans e⟩)]

theorem exec_same {o : Oper} (hs : ∀ cs b, o.op ≠ .select cs b) {a a' : Act} (h : ∀ t ∈ o.looksAt ops, a.tmps[t]? = a'.tmps[t]?) : execOp a.eval o = execOp a'.eval o :=
  execOp_congr o hs fun x hx => by
    cases x with
    | tmp t =>
      have := h t (List.mem_append_left _ (List.mem_filterMap.2 ⟨.tmp t, by simpa using hx, rfl⟩))
      simp [Act.eval, this]
    | _ => rfl
theorem wanted_same {o : Oper} {a a' : Act} (h : ∀ t ∈ o.looksAt ops, a.tmps[t]? = a'.tmps[t]?) : Region.wanted o (yielded ops a.tmps) = Region.wanted o (yielded ops a'.tmps) := by
  unfold Region.wanted
  cases hg : o.guard with
  | none => rfl
  | some p =>
    obtain ⟨g, b⟩ := p
    have : yielded ops a.tmps g = yielded ops a'.tmps g := by
      unfold yielded
      cases hd : (ops[g]?).bind (·.dst) with
      | none => rfl
      | some t =>
        have := h t (List.mem_append_right _ (by simp [hg, hd]))
        simp [this]
    simp [this]
theorem put_same {a a' : Act} {d : Option Tmp} {u v : Value} (hs : a.tmps.size = a'.tmps.size) (h : a.put d u = a.put d v) : a'.put d u = a'.put d v := by
  cases d with
  | none => rfl
  | some t =>
    simp only [Act.put, Act.mk.injEq, and_true] at h ⊢
    rcases Nat.lt_or_ge t a'.tmps.size with h' | h'
    · have h1 := congrArg (fun x : Array Value => x[t]?) h
      simp [hs, h'] at h1
      rw [h1]
    · rw [Array.setIfInBounds_eq_of_size_le h', Array.setIfInBounds_eq_of_size_le h']
theorem wp_same {o : Oper} {a a' : Act} {w : World} {G : Value → World → Prop} (he : execOp a.eval o = execOp a'.eval o) (hs : a'.tmps.size = a.tmps.size) (hdf : a'.defers = a.defers)
    (hQ : ∀ c (a a' : Act) w, a'.defers = a.defers → Q (.panic c) a w → Q (.panic c) a' w) (h : o.wp P a' w (fun b w' => ∃ u, b = a'.put o.dst u ∧ G u w') Q) : o.wp P a w (fun b w' => ∃ u, b = a.put o.dst u ∧ G u w') Q := by
  unfold Oper.wp at *
  rw [he]
  have conv : ∀ v w', (∃ u, a'.put o.dst v = a'.put o.dst u ∧ G u w') → ∃ u, a.put o.dst v = a.put o.dst u ∧ G u w' := fun v w' ⟨u, h1, h2⟩ => ⟨u, put_same hs h1, h2⟩
  generalize (execOp a'.eval o).run P w = r at *
  cases r with
  | ok n w' =>
    cases n <;> simp only [Oper.upon] at h ⊢
    case value v => exact conv _ _ h
    case skip => exact conv _ _ h
    case defer d =>
      obtain ⟨u, h1, _⟩ := h
      have := congrArg Act.defers h1
      rw [put_defs, put_defs] at this
      simp at this
    case enter f args =>
      refine Calls.mono h fun e w'' h => ?_
      cases e with
      | returned v => exact conv _ _ h
      | panicked c => exact hQ _ _ _ _ hdf.symm h
      | outgrown => exact h
    case row row args => exact Rows.mono h fun v w'' h => conv _ _ h
  | halt x w' =>
    cases x <;> simp only [Oper.upon] at h ⊢
    case panic v => exact hQ _ _ _ _ hdf.symm h

/-- What is to be shown of one operation: from the values of those that it waits for. -/
def AllInv (P : Program) (ops : Array Oper) (Q : Exit → Act → World → Prop) (S : World → Prop) (T : World → World → Prop) (R : Nat → Value → World → Prop) (A : Act) (D : List (List (Option Tmp × Nat))) (is : List Nat) : Prop :=
  ∀ i ∈ is, ∀ o, ops[i]? = some o → ∀ vs w, S w → AllR R vs w (D.getD i []) → ∀ K : Act → World → Prop, (∀ u w', S w' → T w w' → R i u w' → K ((putsL A vs (D.getD i [])).put o.dst u) w') →
    if Region.wanted o (yielded ops (putsL A vs (D.getD i [])).tmps) = true then Oper.wp P o (putsL A vs (D.getD i [])) w K Q else K ((putsL A vs (D.getD i [])).put o.dst undef) w
theorem AllInv.nil {S : World → Prop} {T : World → World → Prop} {R : Nat → Value → World → Prop} {A : Act} {D : List (List (Option Tmp × Nat))} : AllInv P ops Q S T R A D [] := fun _ h => by cases h
theorem AllInv.cons {S : World → Prop} {T : World → World → Prop} {R : Nat → Value → World → Prop} {A : Act} {D : List (List (Option Tmp × Nat))} {i : Nat} {is : List Nat} {o : Oper} {d : List (Option Tmp × Nat)} (ho : ops[i]? = some o) (hd : D.getD i [] = d)
    (h : ∀ vs w, S w → AllR R vs w d → ∀ K : Act → World → Prop, Shut (∀ u w', S w' → T w w' → R i u w' → K ((putsL A vs d).put o.dst u) w') →
      if Region.wanted o (yielded ops (putsL A vs d).tmps) = true then Oper.wp P o (putsL A vs d) w K Q else K ((putsL A vs d).put o.dst undef) w)
    (hs : AllInv P ops Q S T R A D is) : AllInv P ops Q S T R A D (i :: is) := by
  intro j hj
  rcases List.mem_cons.1 hj with rfl | hj
  · intro o' ho'
    rw [ho] at ho'
    obtain rfl := Option.some.inj ho'
    rw [hd]
    exact h
  · exact hs j hj

structure Inv (ops : Array Oper) (S : World → Prop) (R : Nat → Value → World → Prop) (A : Act) (listed : Array Bool) (a : Act) (w : World) : Prop where
  closed : Closed ops listed
  S : S w
  rep : ∃ vs, Rep ops (onOf listed) A vs a ∧ ∀ j, onOf listed j = true → R j (vs j) w

theorem on_set {listed : Array Bool} {i j : Nat} (hi : i < listed.size) : onOf (listed.setIfInBounds i true) j = (if j = i then true else onOf listed j) := by
  unfold onOf
  by_cases h : j = i
  · subst h; simp [hi]
  · rw [if_neg h, getD_set_ne false (Ne.symm h)]
theorem rep_step {listed : Array Bool} {A a : Act} {vs : Nat → Value} {i : Nat} {u : Value} (hl : loneDst ops = true) (hi : i < listed.size) (hun : onOf listed i = false) (rep : Rep ops (onOf listed) A vs a) :
    Rep ops (onOf (listed.setIfInBounds i true)) A (fun j => if j = i then u else vs j) (a.put (dstAt ops i) u) := by
  refine ⟨(put_defs _ _ _).trans rep.defers, fun t => ?_⟩
  rw [put_tmps, rep.tmps]
  by_cases hd : dstAt ops i = some t
  · rw [if_pos hd, slot_off (on := onOf listed) hl (fun k hk => by rw [loneDst_spec hl (dstAt_lt hk) (dstAt_lt hd) hk hd]; exact hun), slot_on (on := onOf (listed.setIfInBounds i true)) hl hd (by rw [on_set hi, if_pos rfl]), if_pos rfl]
  · rw [if_neg hd]
    by_cases hex : ∃ j, dstAt ops j = some t ∧ onOf listed j = true
    · obtain ⟨j, hj, hon⟩ := hex
      have hne : j ≠ i := fun e => hd (e ▸ hj)
      rw [slot_on (on := onOf listed) hl hj hon, slot_on (on := onOf (listed.setIfInBounds i true)) hl hj (by rw [on_set hi, if_neg hne]; exact hon), if_neg hne]
    · rw [slot_off (on := onOf listed) hl (fun k hk => by
        cases h : onOf listed k
        · rfl
        · exact absurd ⟨k, hk, h⟩ hex), slot_off (on := onOf (listed.setIfInBounds i true)) hl (fun k hk => by
        have hne : k ≠ i := fun e => hd (e ▸ hk)
        rw [on_set hi, if_neg hne]
        cases h : onOf listed k
        · rfl
        · exact absurd ⟨k, hk, h⟩ hex)]
theorem tmps_size {on : Nat → Bool} {A a : Act} {vs : Nat → Value} (rep : Rep ops on A vs a) : a.tmps.size = A.tmps.size := by
  have h1 : ∀ t : Nat, (a.tmps[t]?).isSome = (A.tmps[t]?).isSome := fun t => by
    rw [rep.tmps]
    unfold slotAt
    split <;> simp
  have h2 : ∀ t : Nat, t < a.tmps.size ↔ t < A.tmps.size := fun t => by
    have := h1 t
    by_cases x : t < a.tmps.size
    · rw [Array.getElem?_eq_getElem x] at this
      refine ⟨fun _ => ?_, fun _ => x⟩
      rcases Nat.lt_or_ge t A.tmps.size with y | y
      · exact y
      · rw [Array.getElem?_eq_none y] at this; cases this
    · refine ⟨fun y => absurd y x, fun y => ?_⟩
      rw [Array.getElem?_eq_none (by omega), Array.getElem?_eq_getElem y] at this
      cases this
  have a1 := h2 a.tmps.size
  have a2 := h2 A.tmps.size
  omega
theorem putsL_size : ∀ (l : List (Option Tmp × Nat)) (A : Act) (vs : Nat → Value), (putsL A vs l).tmps.size = A.tmps.size
  | [], _, _ => rfl
  | p :: l, A, vs => (putsL_size l _ vs).trans (by cases h : p.1 <;> simp [Act.put])

theorem count_lt {p q : Nat → Bool} {i : Nat} : ∀ {l : List Nat}, i ∈ l → p i = true → q i = false → (∀ j, q j = true → p j = true) → l.countP q < l.countP p
  | [], h, _, _, _ => by cases h
  | k :: l, h, hp, hq, hm => by
    have hle : l.countP q ≤ l.countP p := List.countP_mono_left (fun x _ hx => hm x hx)
    rcases List.mem_cons.1 h with rfl | h
    · rw [List.countP_cons_of_pos hp, List.countP_cons_of_neg (by simp [hq])]; omega
    · have := count_lt h hp hq hm
      rw [List.countP_cons, List.countP_cons]
      have : (if q k = true then 1 else 0) ≤ (if p k = true then 1 else 0) := by
        by_cases hk : q k = true
        · simp [hk, hm k hk]
        · simp [hk]
      omega

variable {S : World → Prop} {T : World → World → Prop} {R : Nat → Value → World → Prop} {A : Act} {D : List (List (Option Tmp × Nat))} {F : List (Option Tmp × Nat)}
theorem all_on (hf : ∀ i, i < ops.size → fitOp ops i (D.getD i []) = true) {listed : Array Bool} (hsz : listed.size = ops.size) (hr : Region.ready .any ops listed = []) : ∀ j, j < ops.size → onOf listed j = true := by
  intro j
  induction j using Nat.strongRecOn with
  | ind j ih =>
    intro hj
    obtain ⟨o, ho⟩ : ∃ o, ops[j]? = some o := ⟨_, Array.getElem?_eq_getElem hj⟩
    have h1 := hf j hj
    simp only [fitOp, ho, Bool.and_eq_true] at h1
    cases hon : onOf listed j with
    | true => rfl
    | false =>
      exfalso
      have : j ∈ Region.ready .any ops listed := mem_ready.2 ⟨by
        unfold onOf at hon
        simp [hsz, hj] at hon ⊢
        exact hon, o, ho, fun e he hb => by
        have h2 : e.on < j := by
          have := h1.1.2
          rw [Array.all_eq_true'] at this
          simpa using this e he
        exact ih e.on h2 (by omega)⟩
      rw [hr] at this
      cases this
theorem act_eq {vs : Nat → Value} {a : Act} {listed : Array Bool} (hl : loneDst ops = true) (hF : F = (List.range ops.size).map fun j => (dstAt ops j, j)) (hon : ∀ j, j < ops.size → onOf listed j = true) (rep : Rep ops (onOf listed) A vs a) : a = putsL A vs F := by
  have h1 : a.tmps = (putsL A vs F).tmps := by
    apply Array.ext_getElem?
    intro t
    rw [rep.tmps]
    by_cases hex : ∃ j, dstAt ops j = some t
    · obtain ⟨j, hj⟩ := hex
      rw [slot_on hl hj (hon j (dstAt_lt hj)), putsL_on F A vs t j (by rw [hF, List.mem_map]; exact ⟨j, List.mem_range.2 (dstAt_lt hj), by rw [hj]⟩) (fun p hp e => by
        rw [hF, List.mem_map] at hp
        obtain ⟨k, hk, rfl⟩ := hp
        exact loneDst_spec hl (List.mem_range.1 hk) (dstAt_lt hj) e hj)]
    · rw [slot_off hl (fun k hk => absurd ⟨k, hk⟩ hex), putsL_off F A vs t (fun p hp e => by
        rw [hF, List.mem_map] at hp
        obtain ⟨k, hk, rfl⟩ := hp
        exact hex ⟨k, e⟩)]
  have h2 : a.defers = (putsL A vs F).defers := by rw [rep.defers, putsL_defers]
  cases a
  cases h : putsL A vs F
  rw [h] at h1 h2
  simp at h1 h2
  rw [h1, h2]
theorem wpAny_inv (hns : Region.noSelect ops = true) (hl : loneDst ops = true) (hf : ∀ i, i < ops.size → fitOp ops i (D.getD i []) = true) (hF : F = (List.range ops.size).map fun j => (dstAt ops j, j))
    (hQ : ∀ c (a a' : Act) w, a'.defers = a.defers → Q (.panic c) a w → Q (.panic c) a' w) (hT : ∀ j v w w', T w w' → R j v w → R j v w')
    (hops : AllInv P ops Q S T R A D (List.range ops.size)) (hend : ∀ vs w, S w → AllR R vs w F → Q .normal (putsL A vs F) w) :
    ∀ (fuel : Nat) (listed : Array Bool) (a : Act) (w : World), (List.range ops.size).countP (fun j => !onOf listed j) ≤ fuel → Inv ops S R A listed a w → wpAny P .any ops Q fuel listed a w := by
  have fin : ∀ (listed : Array Bool) (a : Act) (w : World), Inv ops S R A listed a w → Region.ready .any ops listed = [] → Q .normal a w := fun listed a w I hr => by
    obtain ⟨vs, rep, hR⟩ := I.rep
    have hon := all_on hf I.closed.size hr
    rw [act_eq hl hF hon rep]
    refine hend vs w I.S (AllR.of fun p hp => ?_)
    rw [hF, List.mem_map] at hp
    obtain ⟨k, hk, rfl⟩ := hp
    exact hR k (hon k (List.mem_range.1 hk))
  intro fuel
  induction fuel with
  | zero =>
    intro listed a w hc I
    have hr : Region.ready .any ops listed = [] := by
      rw [List.eq_nil_iff_forall_not_mem]
      intro i hi
      obtain ⟨hun, o, ho, _⟩ := mem_ready.1 hi
      have hlt : i < ops.size := (Array.getElem?_eq_some_iff.1 ho).1
      have h0 : (List.range ops.size).countP (fun j => !onOf listed j) = 0 := by omega
      rw [List.countP_eq_zero] at h0
      have := h0 i (List.mem_range.2 hlt)
      have hs := I.closed.size
      simp [onOf, hs, hlt] at this hun
      rw [hun] at this; cases this
    exact ⟨hr, fin listed a w I hr⟩
  | succ fuel ih =>
    intro listed a w hc I
    refine ⟨fin listed a w I, fun i hi => ?_⟩
    obtain ⟨hun, o, ho, hall⟩ := mem_ready.1 hi
    have hlt : i < ops.size := (Array.getElem?_eq_some_iff.1 ho).1
    have hlt' : i < listed.size := by rw [I.closed.size]; exact hlt
    have hoff : onOf listed i = false := by
      simp [onOf, hlt'] at hun ⊢; exact hun
    obtain ⟨vs, rep, hR⟩ := I.rep
    have hfit := hf i hlt
    have hd : AllR R vs w (D.getD i []) := AllR.of fun p hp => by
      simp only [fitOp, ho, Bool.and_eq_true, List.all_eq_true] at hfit
      have := hfit.1.1 p hp
      obtain ⟨e, he, hb, he2⟩ := edgeOn_spec ho this.1.2
      have h3 := hall e he hb
      rw [he2] at h3
      exact hR _ h3
    have hsame := looks_same hl ho hfit I.closed hi rep
    have hnosel : ∀ cs b, o.op ≠ .select cs b := fun cs b => Region.noSelect_spec hns i o cs b ho
    have hex := exec_same hnosel hsame
    have hwa := wanted_same hsame
    have hsz : (putsL A vs (D.getD i [])).tmps.size = a.tmps.size := by rw [putsL_size, tmps_size rep]
    have hdf : (putsL A vs (D.getD i [])).defers = a.defers := by rw [putsL_defers, rep.defers]
    have hstep := hops i (List.mem_range.2 hlt) o ho vs w I.S hd (fun b w' => ∃ u, b = (putsL A vs (D.getD i [])).put o.dst u ∧ (S w' ∧ T w w' ∧ R i u w')) (fun u w' h1 h2 h3 => ⟨u, rfl, h1, h2, h3⟩)
    have hdst : o.dst = dstAt ops i := by simp [dstAt, ho]
    have hnext : ∀ b w', (∃ u, b = a.put o.dst u ∧ (S w' ∧ T w w' ∧ R i u w')) → wpAny P .any ops Q fuel (listed.setIfInBounds i true) b w' := by
      rintro b w' ⟨u, rfl, h1, h2, h3⟩
      have hcl : Closed ops (listed.setIfInBounds i true) := ⟨by simp [I.closed.size], fun j oj hoj hj e he hb => by
        rw [on_set hlt'] at hj ⊢
        by_cases hei : e.on = i
        · rw [if_pos hei]
        · rw [if_neg hei]
          by_cases hji : j = i
          · subst hji
            rw [ho] at hoj
            obtain rfl := Option.some.inj hoj
            exact hall e he hb
          · rw [if_neg hji] at hj
            exact I.closed.after j oj hoj hj e he hb⟩
      refine ih _ _ _ ?_ ⟨hcl, h1, fun j => if j = i then u else vs j, ?_, fun j hj => ?_⟩
      · have := count_lt (p := fun j => !onOf listed j) (q := fun j => !onOf (listed.setIfInBounds i true) j) (i := i) (List.mem_range.2 hlt) (by simp [hoff]) (by simp [on_set hlt']) (fun j hj => by
          by_cases hji : j = i
          · subst hji; simp [hoff]
          · simp [on_set hlt', hji] at hj
            simp [hj])
        omega
      · rw [hdst]; exact rep_step hl hlt' hoff rep
      · show R j (if j = i then u else vs j) w'
        by_cases hji : j = i
        · subst hji; rw [if_pos rfl]; exact h3
        · rw [if_neg hji]
          rw [on_set hlt', if_neg hji] at hj
          exact hT j _ w w' h2 (hR j hj)
    unfold wpOp
    rw [ho]
    show if Region.wanted o (yielded ops a.tmps) = true then _ else _
    rw [hwa]
    by_cases hw : Region.wanted o (yielded ops (putsL A vs (D.getD i [])).tmps) = true
    · rw [if_pos hw] at hstep ⊢
      exact .inl (Oper.wp_mono hnext (wp_same hex hsz hdf hQ hstep))
    · rw [if_neg hw] at hstep ⊢
      obtain ⟨u, h1, h2⟩ := hstep
      exact hnext _ _ ⟨u, put_same hsz h1, h2⟩
/-- **The law.** -/
theorem wp_region_inv {id : Nat} {w0 : World} (S : World → Prop) (T : World → World → Prop) (R : Nat → Value → World → Prop) (D : List (List (Option Tmp × Nat))) (F : List (Option Tmp × Nat)) (hm : P.follows .mixedOrders = true) (hok : fitL ops D F = true)
    (hQ : ∀ c (a a' : Act) w, a'.defers = a.defers → Q (.panic c) a w → Q (.panic c) a' w) (hT : ∀ j v w w', T w w' → R j v w → R j v w') (hS : S w0.drew)
    (hops : AllInv P ops Q S T R A D (List.range ops.size)) (hend : ∀ vs w, S w → AllR R vs w F → Q .normal (putsL A vs F) w) : (Code.region id ops true).wp P Q A w0 := by
  simp only [fitL, Bool.and_eq_true, List.all_eq_true, List.mem_range, decide_eq_true_eq] at hok
  obtain ⟨⟨⟨h1, h2⟩, h3⟩, h4⟩ := hok
  refine wp_region_any hm (wpAny_inv h1 h2 (fun i hi => (h3 i hi).1) h4 hQ hT hops hend _ _ _ _ ?_ ⟨⟨by simp, fun j o ho hj => ?_⟩, hS, fun _ => undef, ⟨rfl, fun t => ?_⟩, fun j hj => ?_⟩)
  · exact Nat.le_trans List.countP_le_length (by simp)
  · exfalso
    unfold onOf at hj
    by_cases h : j < ops.size <;> simp [h] at hj
  · rw [slot_off h2 (fun k hk => by
      have := dstAt_lt hk
      simp [onOf, this])]
  · exfalso
    unfold onOf at hj
    by_cases h : j < ops.size <;> simp [h] at hj
/-- What is known of a value stays known. -/
def StableL (T : World → World → Prop) : List (Value → World → Prop) → Prop
  | [] => True
  | r :: l => (∀ v w w', T w w' → r v w → r v w') ∧ StableL T l
theorem StableL.get {T : World → World → Prop} : ∀ {Rs : List (Value → World → Prop)}, StableL T Rs → ∀ j v w w', T w w' → (Rs.getD j fun _ _ => True) v w → (Rs.getD j fun _ _ => True) v w'
  | [], _, j, v, w, w', _, h => by simp
  | r :: l, h, 0, v, w, w', ht, hr => h.1 v w w' ht hr
  | r :: l, h, j + 1, v, w, w', ht, hr => StableL.get h.2 j v w w' ht hr
theorem wp_region_invL {id : Nat} {w0 : World} (S : World → Prop) (T : World → World → Prop) (Rs : List (Value → World → Prop)) (D : List (List (Option Tmp × Nat))) (F : List (Option Tmp × Nat)) (is : List Nat) (hm : P.follows .mixedOrders = true) (hok : fitL ops D F = true) (hn : List.range ops.size = is)
    (hQ : ∀ c (a a' : Act) w, a'.defers = a.defers → Q (.panic c) a w → Q (.panic c) a' w) (hT : StableL T Rs) (hS : S w0.drew)
    (hops : AllInv P ops Q S T (fun j v w => (Rs.getD j fun _ _ => True) v w) A D is) (hend : ∀ vs w, S w → AllR (fun j v w => (Rs.getD j fun _ _ => True) v w) vs w F → Q .normal (putsL A vs F) w) : (Code.region id ops true).wp P Q A w0 :=
  wp_region_inv S T _ D F hm hok hQ hT.get hS (by rw [hn]; exact hops) hend
theorem inv_yields {o : Oper} {v : Value} {a : Act} {w : World} {K : Act → World → Prop} (h : (Region.wanted o (yielded ops a.tmps) = true ∧ (execOp a.eval o).run P w = .ok (.value v) w) ∨ (Region.wanted o (yielded ops a.tmps) = false ∧ v = undef)) (hk : K (a.put o.dst v) w) :
    if Region.wanted o (yielded ops a.tmps) = true then Oper.wp P o a w K Q else K (a.put o.dst undef) w := by
  rcases h with ⟨h1, h2⟩ | ⟨h1, rfl⟩
  · rw [if_pos h1]
    unfold Oper.wp
    rw [h2]
    exact hk
  · rw [if_neg (by rw [h1]; simp)]
    exact hk
theorem inv_yieldsIf {o : Oper} {v : Value} {a : Act} {w : World} {S : World → Prop} {K : Act → World → Prop} (h : YieldsIf P ops S o v a) (hS : S w) (hk : K (a.put o.dst v) w) :
    if Region.wanted o (yielded ops a.tmps) = true then Oper.wp P o a w K Q else K (a.put o.dst undef) w :=
  inv_yields (h.imp (fun ⟨h1, h2⟩ => ⟨h1, h2 w hS⟩) id) hk
end
end Go.Proofs.Ytjlpdbaknhbgdaa
