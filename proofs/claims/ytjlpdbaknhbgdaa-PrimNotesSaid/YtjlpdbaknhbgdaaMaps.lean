/-
  Maps as functions of their keys' bytes: what a look-up finds, what a store leaves, how a range goes. No program here.
-/
import Derived.Test.YtjlpdbaknhbgdaaKit0
import Derived.DeepKeys4
import Derived.WideKeyArr
import Derived.Maps.RangeWalk
set_option linter.unusedSimpArgs false
set_option linter.unusedVariables false
namespace Go.Proofs.Ytjlpdbaknhbgdaa
open Go.RowKit Go.MapKept
open Go.ChangeMaps (setBlock heap_setBlock_same heap_setBlock_other modify_eq_set)

/-- Keys of a type, told by bytes. -/
structure MKey (P : Program) (k : TypeId) (ok : List UInt8 → Prop) (enc : List UInt8 → Value) : Prop where
  law : Go.Maps.Keyed P k
  key : ∀ h, ok h → ∃ kl, keyOf P k (enc h) = some kl
  inj : ∀ h h', ok h → ok h' → enc h = enc h' → h = h'
section
variable {P : Program} {k : TypeId} {ok : List UInt8 → Prop} {enc : List UInt8 → Value}
/-- These entries are a map that has 'look h' at h. -/
def EntsAre (ok : List UInt8 → Prop) (enc : List UInt8 → Value) (es : Array MapEntry) (look : List UInt8 → Option Value) : Prop :=
  (∀ x ∈ es.toList, ∃ h, ok h ∧ x.key = enc h ∧ look h = some x.val) ∧ (∀ h v, ok h → look h = some v → ∃ x ∈ es.toList, x.key = enc h ∧ x.val = v)
/-- Block b is a map of at most n entries that has 'look h' at h. -/
def MapIs (ok : List UInt8 → Prop) (enc : List UInt8 → Value) (w : World) (b n : Nat) (look : List UInt8 → Option Value) : Prop :=
  ∃ es clock, w.heap[b]? = some (.map es clock) ∧ es.size ≤ n ∧ Stamped es clock ∧ EntsAre ok enc es look
/-- The map's entry of that stamp is at that key. -/
def StampAt (enc : List UInt8 → Value) (w : World) (b s : Nat) (h : List UInt8) : Prop := ∃ es clock, w.heap[b]? = some (.map es clock) ∧ ∃ x ∈ es.toList, x.born = s ∧ x.key = enc h
theorem MapIs.lt {w : World} {b n : Nat} {look : List UInt8 → Option Value} (h : MapIs ok enc w b n look) : b < w.heap.size := by
  obtain ⟨es, clock, hb, _⟩ := h
  exact (Array.getElem?_eq_some_iff.1 hb).1
theorem MapIs.kept {w w' : World} {b n : Nat} {look : List UInt8 → Option Value} {row : Option Nat} (h : MapIs ok enc w b n look) (gr : w.grownBy w' row) (hr : some b ≠ row) : MapIs ok enc w' b n look := by
  have hl := h.lt
  obtain ⟨es, clock, hb, r⟩ := h
  exact ⟨es, clock, (gr.block b hl hr).trans hb, r⟩
theorem MapIs.below {w w' : World} {b n : Nat} {look : List UInt8 → Option Value} (h : MapIs ok enc w b n look) (bl : Below w.heap.size w w') : MapIs ok enc w' b n look := by
  have hl := h.lt
  obtain ⟨es, clock, hb, r⟩ := h
  exact ⟨es, clock, (bl.block b hl).trans hb, r⟩
theorem MapIs.drew {w : World} {b n : Nat} {look : List UInt8 → Option Value} (h : MapIs ok enc w b n look) : MapIs ok enc w.drew b n look := h
theorem MapIs.mono {w : World} {b n n' : Nat} {look : List UInt8 → Option Value} (h : MapIs ok enc w b n look) (hn : n ≤ n') : MapIs ok enc w b n' look := by
  obtain ⟨es, clock, hb, h1, r⟩ := h
  exact ⟨es, clock, hb, Nat.le_trans h1 hn, r⟩
/-- another block cannot be the map's. -/
theorem MapIs.ne {w : World} {b n g : Nat} {look : List UInt8 → Option Value} {cs : Array Value} {t : TypeId} (h : MapIs ok enc w b n look) (hg : Blk w g cs t) : b ≠ g := fun e => by
  subst e
  obtain ⟨es, clock, hb, _⟩ := h
  unfold Blk at hg
  rw [hb] at hg
  cases hg
theorem MapIs.own_ne {w : World} {b n : Nat} {look : List UInt8 → Option Value} {base : Nat} {e : TypeId} {size m : Nat} {v : Value} {xs : List Value} (h : MapIs ok enc w b n look) (ho : w.ownsRow base e size v m xs) : some b ≠ v.ownBlock := fun e2 => by
  obtain ⟨es, clock, hb, _⟩ := h
  rcases ho.2 with ⟨rfl, _⟩ | ⟨g, cap, cur, rfl, _, hg, _⟩
  · simp [Value.ownBlock] at e2
  · simp [Value.ownBlock] at e2
    subst e2
    rw [hb] at hg
    cases hg
theorem MapIs.congr {w : World} {b n : Nat} {look look' : List UInt8 → Option Value} (h : MapIs ok enc w b n look) (he : ∀ x, ok x → look x = look' x) : MapIs ok enc w b n look' := by
  obtain ⟨es, clock, hb, h1, h2, h3, h4⟩ := h
  refine ⟨es, clock, hb, h1, h2, fun x hx => ?_, fun x v hx hv => h4 x v hx (by rw [he x hx]; exact hv)⟩
  obtain ⟨y, hy, e1, e2⟩ := h3 x hx
  exact ⟨y, hy, e1, by rw [← he y hy]; exact e2⟩
theorem MapIs.made (ok : List UInt8 → Prop) (enc : List UInt8 → Value) (w : World) : MapIs ok enc (w.alloc (.map #[] 0)) w.heap.size 0 (fun _ => none) :=
  ⟨#[], 0, (MapKept.heap_alloc w _).1, Nat.le_refl _, stamped_empty 0, fun x hx => by simp at hx, fun h v _ hv => by cases hv⟩
/-- What finding a key says. -/
theorem EntsAre.find (K : MKey P k ok enc) {es : Array MapEntry} {look : List UInt8 → Option Value} (h : EntsAre ok enc es look) (w : World) (x : List UInt8) (hx : ok x) :
    (look x = none ∧ (Instr.findKey k (enc x) es.toList).run P w = .ok none w ∧ ∀ e ∈ es.toList, e.key ≠ enc x) ∨ ∃ j e, look x = some e.val ∧ (Instr.findKey k (enc x) es.toList).run P w = .ok (some (j, e.val)) w ∧ es.toList[j]? = some e ∧ e.key = enc x := by
  obtain ⟨kl, hkl⟩ := K.key x hx
  rcases K.law.find w hkl es.toList (fun e he => by obtain ⟨y, hy, e1, _⟩ := h.1 e he; rw [e1]; exact K.key y hy) with ⟨h1, h2⟩ | ⟨j, e, h1, h2, h3⟩
  · refine .inl ⟨?_, h1, h2⟩
    cases hl : look x with
    | none => rfl
    | some v =>
      obtain ⟨e, he, e1, _⟩ := h.2 x v hx hl
      exact absurd e1 (h2 e he)
  · refine .inr ⟨j, e, ?_, h1, h2, h3⟩
    obtain ⟨y, hy, e1, e2⟩ := h.1 e (List.mem_of_getElem? h2)
    obtain rfl : y = x := K.inj y x hy hx (e1.symm.trans h3)
    exact e2
/-- 'm[k]', 'v, ok := m[k]'. -/
theorem MapIs.look (K : MKey P k ok enc) {w : World} {b n : Nat} {look : List UInt8 → Option Value} (h : MapIs ok enc w b n look) {t e : TypeId} (ht : P.underlying t = some (.map k e)) {z : Value} (hz : (zeroValue e).run P w = .ok z w) (x : List UInt8) (hx : ok x) (c : Bool) :
    (Instr.lookup t (.map (some b)) (enc x) c).run P w = .ok (if c then .tuple #[(look x).getD z, .bool (look x).isSome] else (look x).getD z) w := by
  obtain ⟨es, clock, hb, _, _, hE⟩ := h
  obtain ⟨kl, hkl⟩ := K.key x hx
  rcases hE.find K w x hx with ⟨h0, h1, _⟩ | ⟨j, e0, h0, h1, h2, h3⟩
  · rw [h0]
    simp [Instr.lookup, run_underlying ht, MapKept.run_getObj_map hb, K.law.check w _ hkl, h1, hz, Result.andThen]
  · rw [h0]
    simp [Instr.lookup, run_underlying ht, MapKept.run_getObj_map hb, K.law.check w _ hkl, h1, Result.andThen]
theorem grown_setBlock {w : World} {b : Nat} {es es' : Array MapEntry} {clock clock' : Nat} (hb : w.heap[b]? = some (.map es clock)) : w.grownBy (setBlock w b (.map es' clock')) (some b) :=
  ⟨rfl, rfl, rfl, by simp [setBlock], fun i _ hi => heap_setBlock_other hb _ (fun e => hi (by rw [e]))⟩
theorem ents_push (K : MKey P k ok enc) {es : Array MapEntry} {look : List UInt8 → Option Value} (hE : EntsAre ok enc es look) (x : List UInt8) (hx : ok x) (v : Value) (s : Nat) (h0 : look x = none) : EntsAre ok enc (es.push ⟨enc x, v, s⟩) (fun y => if y = x then some v else look y) := by
  refine ⟨fun e he => ?_, fun y u hy hu => ?_⟩
  · simp only [Array.toList_push, List.mem_append, List.mem_singleton] at he
    rcases he with he | rfl
    · obtain ⟨y, hy, e1, e2⟩ := hE.1 e he
      refine ⟨y, hy, e1, ?_⟩
      simp only
      rw [if_neg (fun e3 => by rw [e3, h0] at e2; cases e2)]
      exact e2
    · exact ⟨x, hx, rfl, by simp⟩
  · simp only at hu
    by_cases e : y = x
    · subst e
      rw [if_pos rfl] at hu
      refine ⟨⟨enc y, v, s⟩, by simp, rfl, by simpa using hu⟩
    · rw [if_neg e] at hu
      obtain ⟨e0, he0, e1, e2⟩ := hE.2 y u hy hu
      exact ⟨e0, by simp [he0], e1, e2⟩
theorem ents_set (K : MKey P k ok enc) {es : Array MapEntry} {clock : Nat} (hS : Stamped es clock) {look : List UInt8 → Option Value} (hE : EntsAre ok enc es look) (x : List UInt8) (hx : ok x) (v : Value) (j : Nat) (e0 : MapEntry) (hj : es.toList[j]? = some e0) (hk : e0.key = enc x) (f : MapEntry → MapEntry) (hf : f e0 = ⟨enc x, v, e0.born⟩) :
    EntsAre ok enc (es.modify j f) (fun y => if y = x then some v else look y) ∧ Stamped (es.modify j f) clock ∧ (es.modify j f).size = es.size ∧ ⟨enc x, v, e0.born⟩ ∈ (es.modify j f).toList := by
  have hlist : (es.modify j f).toList = es.toList.set j ⟨enc x, v, e0.born⟩ := by rw [Array.toList_modify, modify_eq_set _ _ _ _ hj, hf]
  have hlt := (List.getElem?_eq_some_iff.1 hj).1
  have hne : ∀ i e, i ≠ j → es.toList[i]? = some e → e.key ≠ e0.key := fun i e hi he hke => by
    have hn := ((stamped_iff es clock).1 hS).2.2
    rw [List.pairwise_iff_getElem] at hn
    obtain ⟨h1, h2⟩ := List.getElem?_eq_some_iff.1 he
    obtain ⟨h3, h4⟩ := List.getElem?_eq_some_iff.1 hj
    rcases Nat.lt_or_gt_of_ne hi with hlt | hlt
    · exact hn i j h1 h3 hlt (by rw [h2, h4, hke])
    · exact hn j i h3 h1 hlt (by rw [h2, h4, hke])
  refine ⟨⟨fun e he => ?_, fun y u hy hu => ?_⟩, ?_, by simp, ?_⟩
  · rw [hlist] at he
    obtain ⟨i, hi⟩ := List.getElem?_of_mem he
    by_cases hij : i = j
    · subst hij
      rw [List.getElem?_set_self hlt] at hi
      obtain rfl : MapEntry.mk (enc x) v e0.born = e := by simpa using hi
      exact ⟨x, hx, rfl, by simp⟩
    · rw [List.getElem?_set_ne (fun e' => hij e'.symm)] at hi
      obtain ⟨y, hy, e1, e2⟩ := hE.1 e (List.mem_of_getElem? hi)
      refine ⟨y, hy, e1, ?_⟩
      simp only
      rw [if_neg (fun e3 => hne i e hij hi (by rw [e1, e3, hk]))]
      exact e2
  · simp only at hu
    rw [hlist]
    by_cases e : y = x
    · subst e
      rw [if_pos rfl] at hu
      refine ⟨_, List.mem_of_getElem? (List.getElem?_set_self hlt), rfl, by simpa using hu⟩
    · rw [if_neg e] at hu
      obtain ⟨e1, he1, e2, e3⟩ := hE.2 y u hy hu
      obtain ⟨i, hi⟩ := List.getElem?_of_mem he1
      have hij : i ≠ j := fun hij => by
        subst hij
        rw [hj] at hi
        obtain rfl : e0 = e1 := by simpa using hi
        exact e (K.inj y x hy hx (e2.symm.trans hk))
      exact ⟨e1, List.mem_of_getElem? (by rw [List.getElem?_set_ne (fun e' => hij e'.symm)]; exact hi), e2, e3⟩
  · obtain ⟨h1, h2, h3⟩ := hS
    have e1 : (es.toList.set j ⟨enc x, v, e0.born⟩).map (·.born) = es.toList.map (·.born) := by
      rw [List.map_set]
      apply List.ext_getElem?
      intro i
      by_cases hij : i = j
      · subst hij
        rw [List.getElem?_set_self (by simpa using hlt), List.getElem?_map, hj]; rfl
      · rw [List.getElem?_set_ne (fun e' => hij e'.symm)]
    have e2 : (es.toList.set j ⟨enc x, v, e0.born⟩).map (·.key) = es.toList.map (·.key) := by
      rw [List.map_set]
      apply List.ext_getElem?
      intro i
      by_cases hij : i = j
      · subst hij
        rw [List.getElem?_set_self (by simpa using hlt), List.getElem?_map, hj]; simp [hk]
      · rw [List.getElem?_set_ne (fun e' => hij e'.symm)]
    refine ⟨fun e he => ?_, by rw [hlist, e1]; exact h2, by rw [hlist, e2]; exact h3⟩
    have : e.born ∈ es.toList.map (·.born) := by rw [← e1, ← hlist]; exact List.mem_map.2 ⟨e, he, rfl⟩
    obtain ⟨e', he', eb⟩ := List.mem_map.1 this
    rw [← eb]; exact h1 e' he'
  · rw [hlist]; exact List.mem_of_getElem? (List.getElem?_set_self hlt)
/-- 'm[k] = v'. -/
theorem MapIs.store (K : MKey P k ok enc) {w : World} {b n : Nat} {look : List UInt8 → Option Value} (h : MapIs ok enc w b n look) {t e : TypeId} (ht : P.underlying t = some (.map k e)) (x : List UInt8) (hx : ok x) (v : Value) :
    ∃ w', (Instr.mapUpdate t (.map (some b)) (enc x) v).run P w = .ok () w' ∧ MapIs ok enc w' b (n + 1) (fun y => if y = x then some v else look y) ∧ w.grownBy w' (some b) := by
  obtain ⟨es, clock, hb, hn, hS, hE⟩ := h
  obtain ⟨kl, hkl⟩ := K.key x hx
  rcases hE.find K w x hx with ⟨h0, h1, h2⟩ | ⟨j, e0, h0, h1, h2, h3⟩
  · refine ⟨setBlock w b (.map (es.push ⟨enc x, v, clock⟩) (clock + 1)), ?_, ⟨_, _, heap_setBlock_same hb _, by simp; omega, stamped_push hS h2, ents_push K hE x hx v clock h0⟩, grown_setBlock hb⟩
    simp [Instr.mapUpdate, run_underlying ht, MapKept.run_getObj_map hb, K.law.check w false hkl, h1, MapKept.run_setObj_map _ hb, Result.andThen, setBlock]
  · have hj : es[j]? = some e0 := by simpa using h2
    obtain ⟨g1, g2, g3, _⟩ := ents_set K hS hE x hx v j e0 h2 h3 (fun e => { e with key := enc x, val := v }) rfl
    refine ⟨setBlock w b (.map (es.modify j fun e => { e with key := enc x, val := v }) clock), ?_, ⟨_, _, heap_setBlock_same hb _, by rw [g3]; omega, g2, g1⟩, grown_setBlock hb⟩
    simp [Instr.mapUpdate, run_underlying ht, MapKept.run_getObj_map hb, K.law.check w false hkl, h1, hj, h3, K.law.stays w hkl, MapKept.run_setObj_map _ hb, Result.andThen, setBlock]
/-- The entry for 'm[k] = append(m[k], ..)': there, or made. -/
theorem MapIs.entry (K : MKey P k ok enc) {w : World} {b n : Nat} {look : List UInt8 → Option Value} (h : MapIs ok enc w b n look) {t e : TypeId} (ht : P.underlying t = some (.map k e)) {z : Value} (hz : (zeroValue e).run P w = .ok z w) (x : List UInt8) (hx : ok x) :
    ∃ w' s, (Instr.mapEntry t (.map (some b)) (enc x)).run P w = .ok (.tuple #[(look x).getD z, .int .i64 (s : Nat)]) w' ∧ MapIs ok enc w' b (n + 1) (fun y => if y = x then some ((look x).getD z) else look y) ∧ StampAt enc w' b s x ∧ w.grownBy w' (some b) := by
  obtain ⟨es, clock, hb, hn, hS, hE⟩ := h
  obtain ⟨kl, hkl⟩ := K.key x hx
  rcases hE.find K w x hx with ⟨h0, h1, h2⟩ | ⟨j, e0, h0, h1, h2, h3⟩
  · rw [h0]
    refine ⟨setBlock w b (.map (es.push ⟨enc x, z, clock⟩) (clock + 1)), clock, ?_, ⟨_, _, heap_setBlock_same hb _, by simp; omega, stamped_push hS h2, ents_push K hE x hx z clock h0⟩, ⟨_, _, heap_setBlock_same hb _, ⟨enc x, z, clock⟩, by simp, rfl, rfl⟩, grown_setBlock hb⟩
    simp [Instr.mapEntry, run_underlying ht, MapKept.run_getObj_map hb, K.law.check w false hkl, h1, hz, MapKept.run_setObj_map _ hb, Result.andThen, setBlock, goInt]
  · have hj : es[j]? = some e0 := by simpa using h2
    rw [h0]
    obtain ⟨g1, g2, g3, g4⟩ := ents_set K hS hE x hx e0.val j e0 h2 h3 (fun e => { e with key := enc x }) rfl
    refine ⟨setBlock w b (.map (es.modify j fun e => { e with key := enc x }) clock), e0.born, ?_, ⟨_, _, heap_setBlock_same hb _, by rw [g3]; omega, g2, g1⟩, ⟨_, _, heap_setBlock_same hb _, _, g4, rfl, rfl⟩, grown_setBlock hb⟩
    simp [Instr.mapEntry, run_underlying ht, MapKept.run_getObj_map hb, K.law.check w false hkl, h1, hj, h3, K.law.stays w hkl, MapKept.run_setObj_map _ hb, Result.andThen, setBlock, goInt]
theorem StampAt.kept {w w' : World} {b s : Nat} {h : List UInt8} {row : Option Nat} (hs : StampAt enc w b s h) (gr : w.grownBy w' row) (hr : some b ≠ row) : StampAt enc w' b s h := by
  obtain ⟨es, clock, hb, r⟩ := hs
  exact ⟨es, clock, (gr.block b (Array.getElem?_eq_some_iff.1 hb).1 hr).trans hb, r⟩
theorem StampAt.below {w w' : World} {b s : Nat} {h : List UInt8} (hs : StampAt enc w b s h) (bl : Below w.heap.size w w') : StampAt enc w' b s h := by
  obtain ⟨es, clock, hb, r⟩ := hs
  exact ⟨es, clock, (bl.block b (Array.getElem?_eq_some_iff.1 hb).1).trans hb, r⟩
theorem findIdx_born : ∀ (l : List MapEntry) (j : Nat) (e0 : MapEntry), (l.map (·.born)).Nodup → l[j]? = some e0 → l.findIdx? (fun e => (e.born : Int) == (e0.born : Int)) = some j
  | [], j, e0, _, h => by simp at h
  | e :: l, 0, e0, _, h => by
    obtain rfl : e = e0 := by simpa using h
    rw [List.findIdx?_cons]; simp
  | e :: l, j + 1, e0, hn, h => by
    rw [List.map_cons, List.nodup_cons] at hn
    have h2 : l[j]? = some e0 := by simpa using h
    have h3 : e.born ≠ e0.born := fun e1 => hn.1 (List.mem_map.2 ⟨e0, List.mem_of_getElem? h2, e1.symm⟩)
    have h4 : ((e.born : Int) == (e0.born : Int)) = false := by rw [beq_eq_false_iff_ne]; omega
    rw [List.findIdx?_cons, findIdx_born l j e0 hn.2 h2, h4]
    rfl
/-- The store into that entry. -/
theorem MapIs.entryStore (K : MKey P k ok enc) {w : World} {b n s : Nat} {look : List UInt8 → Option Value} (h : MapIs ok enc w b n look) (t : TypeId) (x : List UInt8) (hx : ok x) (hs : StampAt enc w b s x) (v : Value) :
    ∃ w', (Instr.entryStore t (.map (some b)) (.int .i64 (s : Nat)) v).run P w = .ok () w' ∧ MapIs ok enc w' b n (fun y => if y = x then some v else look y) ∧ w.grownBy w' (some b) := by
  obtain ⟨es, clock, hb, hn, hS, hE⟩ := h
  obtain ⟨es', clock', hb', e0, he0, hbo, hke⟩ := hs
  rw [hb] at hb'
  obtain ⟨rfl, rfl⟩ : es = es' ∧ clock = clock' := by simpa using hb'
  obtain ⟨j, hj⟩ := List.getElem?_of_mem he0
  have hj2 : es[j]? = some e0 := by simpa using hj
  obtain ⟨g1, g2, g3, _⟩ := ents_set K hS hE x hx v j e0 hj hke (fun e => { e with val := v }) (by simp [hke])
  refine ⟨setBlock w b (.map (es.modify j fun e => { e with val := v }) clock), ?_, ⟨_, _, heap_setBlock_same hb _, by rw [g3]; exact hn, g2, g1⟩, grown_setBlock hb⟩
  have hf : es.findIdx? (fun e => (e.born : Int) == (s : Int)) = some j := by
    rw [← hbo]
    have h9 := findIdx_born _ _ _ hS.2.1 hj
    obtain ⟨l⟩ := es
    rw [List.findIdx?_toArray]
    exact h9
  simp [Instr.entryStore, MapKept.run_getObj_map hb, asInt, asIntOf, hf, MapKept.run_setObj_map _ hb, Result.andThen, setBlock]
end
end Go.Proofs.Ytjlpdbaknhbgdaa
