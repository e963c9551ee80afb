/-
  slices.Reverse and slices.Clone at rows of seeds, off the shelf; append of seeds to a row of one's own, with where the new row lies.
-/
import Derived.Shelf.SlicesQ.Reverse
import Derived.Shelf.SlicesE.Clone
import Derived.Ground.SlgnProg
import Derived.Test.YtlomofcnknpciaaPprBase
set_option linter.unusedSimpArgs false
set_option linter.unusedVariables false
namespace Go.Proofs
open Go.Shelf Go.Lib
shelf_lay_g SlLaysE0.n35 Slgn 35 at Try 141 as Try.reverseSd
end Go.Proofs
namespace Go.Proofs.Ytlomofcnknpciaa
open Go.RowKit Go.Sort

/-- A seed's cells, 34 in any case. -/
def Sd.enc (s : Sd) : List Value := .int .i64 s.lv :: .int .i64 s.pl :: ((s.h ++ List.replicate 32 0).take 32).map bv
theorem Sd.enc_len (s : Sd) : s.enc.length = 34 := by simp [Sd.enc]
theorem Sd.enc_one (s : Sd) : ∀ u ∈ s.enc, u.oneCell' = true := by
  intro u hu
  simp only [Sd.enc, List.mem_cons] at hu
  rcases hu with rfl | rfl | hu
  · rfl
  · rfl
  · exact bv_one _ u hu
theorem Sd.enc_eq (s : Sd) (h : s.h.length = 32) : s.enc = s.cells := by simp [Sd.enc, Sd.cells, List.take_left' h]
instance : Inhabited Sd := ⟨⟨0, 0, []⟩⟩

theorem holds_own {w : World} {base g c : Nat} {l : List Sd} (h : w.ownsRow base 135 34 (.slice (some ⟨g, 0, none⟩) l.length c) l.length (l.flatMap Sd.cells)) (hl : ∀ s ∈ l, s.h.length = 32) : HoldsK Sd.enc 34 w g 0 l.toArray := by
  have hs := SeedsAt.own h hl rfl
  intro j hj
  have hj' : j < l.length * 34 := by simpa using hj
  have hi : j / 34 < l.length := by omega
  have hr := hs.range (j / 34) (l[j / 34]) (List.getElem?_eq_getElem hi)
  have h32 : (l[j / 34]).h.length = 32 := hl _ (List.getElem_mem hi)
  have h34 := Sd.cells_len _ h32
  rw [get_flatK _ _ _ _ (by simpa using hj')]
  refine ⟨?_, ?_⟩
  · have h1 := hr (j % 34) ((l[j / 34]).cells[j % 34]'(by rw [h34]; omega)) (List.getElem?_eq_getElem _)
    rw [show 34 * (j / 34) + j % 34 = 0 + j by omega] at h1
    rw [h1]
    have e : l.toArray[j / 34]! = l[j / 34] := by rw [getElem!_pos _ _ (by simpa using hi)]; simp
    rw [e, Sd.enc_eq _ h32, getElem!_pos _ _ (by rw [h34]; omega)]
    rfl
  · rcases h.2 with ⟨h0, _⟩ | ⟨g', cap, cur, he, _, hg, _⟩
    · simp at h0
    · simp only [Value.slice.injEq, Option.some.injEq, Addr.mk.injEq] at he
      obtain ⟨⟨rfl, _⟩, _, rfl⟩ := he
      simp [World.frozen?, hg]

theorem seeds_holds {w : World} {g c : Nat} {l : List Sd} (h : HoldsK Sd.enc 34 w g 0 l.toArray) (hl : ∀ s ∈ l, s.h.length = 32) (hc : l.length ≤ c) (hg : g < w.heap.size) : SeedsAt w (.slice (some ⟨g, 0, none⟩) l.length c) l := by
  refine ⟨hl, .inr ⟨g, c, rfl, hc, hg, fun j u hj => ?_⟩⟩
  have hflat : (l.flatMap Sd.cells).length = l.length * 34 := by
    clear h hc hg hj
    induction l with
    | nil => rfl
    | cons s t ih => rw [List.flatMap_cons, List.length_append, Sd.cells_len s (hl s List.mem_cons_self), ih (fun x hx => hl x (List.mem_cons_of_mem _ hx)), List.length_cons]; omega
  have hlt : j < l.length * 34 := by have := (List.getElem?_eq_some_iff.1 hj).1; omega
  have hi : j / 34 < l.length := by omega
  have h32 : (l[j / 34]).h.length = 32 := hl _ (List.getElem_mem hi)
  have h34 := Sd.cells_len _ h32
  have h1 := (HoldsK.cell h (i := j / 34) (c := j % 34) (by simpa using hi) (by omega)).1
  rw [show 0 + j / 34 * 34 + j % 34 = j by omega] at h1
  rw [h1]
  have e : l.toArray[j / 34]! = l[j / 34] := by rw [getElem!_pos _ _ (by simpa using hi)]; simp
  have h2 := seeds_at l (j / 34) (l[j / 34]) (j % 34) hl (List.getElem?_eq_getElem hi) (by omega)
  rw [show 34 * (j / 34) + j % 34 = j by omega, hj] at h2
  rw [e, Sd.enc_eq _ h32, getElem!_pos _ _ (by rw [h34]; omega), h2, List.getElem?_eq_getElem]

theorem putRow_grown {α : Type} [Inhabited α] (enc : α → Value) (w : World) (g off : Nat) (d : Array α) : w.grownBy (putRow enc w g off d) (some g) := by
  refine ⟨rfl, rfl, rfl, by simp [putRow, mapBlock], fun k hk hr => ?_⟩
  have hne : g ≠ k := fun e => hr (by rw [e])
  simp only [putRow, mapBlock]
  rw [Array.getElem?_modify, if_neg hne]
theorem ahead_grown (w : World) (n : Nat) (row : Option Nat) : w.grownBy (Sort.ahead w n) row := ⟨rfl, rfl, rfl, Nat.le_refl _, fun _ _ _ => rfl⟩

/-- slices.Reverse at seeds. -/
theorem Reverse_calls (base g c : Nat) (l : List Sd) (w : World) (h : w.ownsRow base 135 34 (.slice (some ⟨g, 0, none⟩) l.length c) l.length (l.flatMap Sd.cells)) (hl : ∀ s ∈ l, s.h.length = 32) (hc : l.length ≤ c) :
    Calls Try.prog 141 #[.slice (some ⟨g, 0, none⟩) l.length c] w fun e w' => e = .returned (.tuple #[]) ∧ SeedsAt w' (.slice (some ⟨g, 0, none⟩) l.length c) l.reverse ∧ w.grownBy w' (some g) := by
  have hH := holds_own h hl
  have hg : g < w.heap.size := (h.lt g rfl).2
  have hcall := AnyQ.slices_Reverse Try.reverseSd 34 Try.isAgg135 Try.sizeOf135 Sd.enc Sd.enc_len Sd.enc_one g 0 c l.toArray w hH (by have := h.1; rcases h.2 with ⟨h0, _⟩ | ⟨_, _, _, he, _, _, _, hm, _⟩; simp at h0; simp at he; unfold maxLen at hm; simp; omega)
  change Calls Try.prog 141 _ _ _ at hcall
  rw [List.size_toArray] at hcall
  refine hcall.mono ?_
  rintro e w' ⟨rfl, n, rfl⟩
  have hgr : w.grownBy (putRowK Sd.enc 34 (Sort.ahead w n) g 0 l.toArray.reverse) (some g) := grown_trans (ahead_grown w n _) (putRow_grown _ _ _ _ _)
  refine ⟨rfl, ?_, hgr⟩
  have h2 : HoldsK Sd.enc 34 (putRowK Sd.enc 34 (Sort.ahead w n) g 0 l.toArray.reverse) g 0 l.toArray.reverse := holdsK_putRowK _ _ _ _ _ l.toArray _ (holdsK_ahead _ _ _ _ _ _ _ hH) (by simp)
  rw [List.reverse_toArray] at h2 hgr ⊢
  have := seeds_holds (c := c) h2 (fun s hs => hl s (List.mem_reverse.1 hs)) (by rw [List.length_reverse]; exact hc) (Nat.lt_of_lt_of_le hg hgr.size)
  rwa [List.length_reverse] at this
theorem ReverseNil_calls (w : World) : Calls Try.prog 141 #[.slice none 0 0] w fun e w' => e = .returned (.tuple #[]) ∧ w' = w := by
  have hcall := AnyQ.slices_Reverse_empty Try.reverseSd none 0 w
  change Calls Try.prog 141 _ _ _ at hcall
  exact hcall

theorem own_weaken {w : World} {b1 b2 : Nat} {e : TypeId} {size n : Nat} {v : Value} {xs : List Value} (h : w.ownsRow b1 e size v n xs) (hb : b2 ≤ b1) : w.ownsRow b2 e size v n xs := by
  refine ⟨h.1, ?_⟩
  rcases h.2 with h0 | ⟨g, cap, cur, h1, h2, h3⟩
  · exact .inl h0
  · exact .inr ⟨g, cap, cur, h1, by omega, h3⟩

/-- append to a row of one's own: the new row lies where the old one lay, or is new. -/
theorem wpList_append_own2 {P : Program} {w : World} {ops : Array Oper} {rest : List Oper} {o : Oper} {a : Act} {Q : Exit → Act → World → Prop} (hgd : o.guard = none) (s x : Operand) (t : TypeId)
    (ho : o.op = .call { callee := .builtin .append, args := #[s, x], argTypes := #[t, t] })
    (base : Nat) (e : TypeId) (i : TypeInfo) (z : Value) (size bytes : Nat) (ht : P.underlying t = some (.slice e)) (hi : P.info? e = some i) (hz : i.zero = some z)
    (hsize : i.size = size) (hby : i.bytes = bytes) (hzs : z.cells.size = size) (hsz : 0 < size)
    (v : Value) (n : Nat) (xs : List Value) (hs : a.eval s = v) (hown : w.ownsRow base e size v n xs)
    (ad : Addr) (m c : Nat) (news : List Value) (hx : a.eval x = .slice (some ad) m c) (hl : news.length = m * size) (hnews : ∀ j u, news[j]? = some u → w.cell? (ad.add j) = some u) (h1 : ∀ u ∈ news, u.oneCell' = true)
    (h63 : n + m ≤ maxLen) (hbytes : (n + m) * bytes ≤ 140737488355328) (hbase : base ≤ w.heap.size)
    (h : ∀ v' w', w'.ownsRow base e size v' (n + m) (xs ++ news) → w.grownBy w' v.ownBlock → (∀ q, v'.ownBlock = some q → v.ownBlock = some q ∨ w.heap.size ≤ q) → wpList P ops Q rest (a.put o.dst v') w') : wpList P ops Q (o :: rest) a w := by
  rcases hown.2 with ⟨rfl, rfl⟩ | ⟨g, cap, cur, rfl, hb, hg, hn, hm, hcs, htk⟩
  · have h0 : xs = [] := List.eq_nil_of_length_eq_zero (by rw [hown.1]; simp)
    subst h0
    refine wpList_append_own w hgd s x t ho w.heap.size e i z size bytes ht hi hz hsize hby hzs hsz _ 0 [] hs (World.ownsRow_nil _ _ _ _) ad m c news hx hl hnews h1 h63 hbytes (Nat.le_refl _) fun v' w' h2 h3 _ => ?_
    exact h v' w' (own_weaken h2 hbase) h3 (fun q hq => .inr (h2.lt q hq).1)
  · by_cases hr : n + m ≤ cap
    · refine wpList_append_fits w hgd s x t ho base e i size ht hi hsize g n cap xs hs hown ad m c news hx hl hnews h1 hr fun w' h2 h3 => ?_
      exact h _ w' h2 h3 (fun q hq => .inl hq)
    · refine wpList_append_arg w hgd s x t ho e i z size bytes ht hi hz hsize hby hzs hsz g 0 n cap xs hs hown.1 (fun j u hj => by have := hown.cells (g := g) rfl j u hj; rwa [Addr.add_lit] at this) ad m c news hx hl hnews h1 (fun hr2 => absurd hr2 hr) h63 hbytes (fun hr2 => absurd hr2 hr) fun _ v' w' h2 h3 => ?_
      exact h v' w' (own_weaken h2 hbase) (grown_any h3 _) (fun q hq => .inr (h2.lt q hq).1)
end Go.Proofs.Ytlomofcnknpciaa
