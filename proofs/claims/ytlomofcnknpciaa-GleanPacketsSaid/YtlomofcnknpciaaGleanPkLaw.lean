/-
  Plain laws of packets: which are right, their bytes, and what is read of bytes.
-/
import Derived.Test.YtlomofcnknpciaaWireOneLaw
import Derived.Test.YtlomofcnknpciaaWireBack
import Derived.Test.YtlomofcnknpciaaGleanKn
import Derived.Test.YtlomofcnknpciaaShaCmp
import Derived.Test.YtlomofcnknpciaaBookLaw
import Derived.Lib.BufferOwn
set_option linter.unusedSimpArgs false
set_option linter.unusedVariables false
namespace Go.Proofs.Ytlomofcnknpciaa
open Go.RowKit

structure Pk where
  k : Int
  s : List UInt8
  ids : List HsT
  ts : List (List UInt8)
def RightP (p : Pk) : Prop := (1 ≤ p.k ∧ p.k ≤ 3 ∧ p.ids = [] ∧ p.ts = [] ∧ p.s.length ≤ 65536) ∨ ((p.k = 4 ∨ p.k = 5) ∧ p.s = [] ∧ p.ts = [] ∧ p.ids.length ≤ 256 ∧ Rises p.ids) ∨ (p.k = 6 ∧ p.s = [] ∧ p.ids = [] ∧ p.ts.length ≤ 64 ∧ ∀ t ∈ p.ts, t.length ≤ 65536)
instance (p : Pk) : Decidable (RightP p) := by unfold RightP Rises; infer_instance
def encT (t : List UInt8) : List UInt8 := numB t.length ++ t
def packP (p : Pk) : List UInt8 := numB p.k.toNat ++ (if p.k = 4 ∨ p.k = 5 then numB p.ids.length ++ p.ids.flatMap id else if p.k = 6 then numB p.ts.length ++ p.ts.flatMap encT else encT p.s)

abbrev RSt := List UInt8 × Int
/-- Things read one behind the other, as long as nothing is wrong. -/
def readN {α : Type} (one : RSt → α × RSt) : Nat → RSt → List α × RSt
  | 0, s => ([], s)
  | n + 1, s => if s.2 ≠ 0 then ([], s) else ((one s).1 :: (readN one n (one s).2).1, (readN one n (one s).2).2)
theorem readN_stop {α : Type} (one : RSt → α × RSt) (n : Nat) (s : RSt) (h : s.2 ≠ 0) : readN one n s = ([], s) := by
  cases n with
  | zero => rfl
  | succ n => rw [readN, if_pos h]
theorem readN_succ {α : Type} (one : RSt → α × RSt) (n : Nat) (s : RSt) (h : s.2 = 0) : readN one (n + 1) s = ((one s).1 :: (readN one n (one s).2).1, (readN one n (one s).2).2) := by
  rw [readN, if_neg (by simp [h])]
theorem readN_len {α : Type} (one : RSt → α × RSt) : ∀ (n : Nat) (s : RSt), (readN one n s).1.length ≤ n
  | 0, s => by simp [readN]
  | n + 1, s => by
    rw [readN]
    split
    · simp
    · have := readN_len one n (one s).2
      simp; omega
theorem readN_all {α : Type} (one : RSt → α × RSt) (P : α → Prop) (h : ∀ s, P (one s).1) : ∀ (n : Nat) (s : RSt), ∀ x ∈ (readN one n s).1, P x
  | 0, s, x, hx => by cases hx
  | n + 1, s, x, hx => by
    rw [readN] at hx
    split at hx
    · cases hx
    · rcases List.mem_cons.1 hx with rfl | hx
      · exact h s
      · exact readN_all one P h n _ x hx
theorem readN_left {α : Type} (one : RSt → α × RSt) (h : ∀ s, (one s).2.1.length ≤ s.1.length) : ∀ (n : Nat) (s : RSt), (readN one n s).2.1.length ≤ s.1.length
  | 0, s => Nat.le_refl _
  | n + 1, s => by
    rw [readN]
    split
    · exact Nat.le_refl _
    · exact Nat.le_trans (readN_left one h n _) (h s)
theorem readN_back {α : Type} (one : RSt → α × RSt) (enc : α → List UInt8) : ∀ (l : List α) (rest : List UInt8), (∀ x ∈ l, ∀ r, one (enc x ++ r, 0) = (x, (r, 0))) → readN one l.length (l.flatMap enc ++ rest, 0) = (l, (rest, 0))
  | [], rest, h => rfl
  | x :: l, rest, h => by
    rw [List.length_cons, readN_succ _ _ _ rfl, List.flatMap_cons, List.append_assoc, h x List.mem_cons_self, readN_back one enc l rest (fun y hy => h y (List.mem_cons_of_mem _ hy))]
theorem readN_one {α : Type} (one : RSt → α × RSt) (enc : α → List UInt8) (h : ∀ s, (one s).2.2 = 0 → s.2 = 0 ∧ enc (one s).1 ++ (one s).2.1 = s.1) : ∀ (n : Nat) (s : RSt), (readN one n s).2.2 = 0 → s.2 = 0 ∧ (readN one n s).1.length = n ∧ (readN one n s).1.flatMap enc ++ (readN one n s).2.1 = s.1
  | 0, s, e => ⟨e, rfl, rfl⟩
  | n + 1, s, e => by
    by_cases h0 : s.2 = 0
    · rw [readN_succ _ _ _ h0] at e ⊢
      obtain ⟨a1, a2, a3⟩ := readN_one one enc h n _ e
      obtain ⟨b1, b2⟩ := h s a1
      refine ⟨h0, by simp [a2], ?_⟩
      rw [List.flatMap_cons, List.append_assoc, a3, b2]
    · rw [readN_stop _ _ _ h0] at e
      exact absurd e h0

theorem mostMin (n : Nat) (h : n ≤ 65536) : min (65536 : Int) 65536 = 65536 := by omega
abbrev rTx : RSt → List UInt8 × RSt := rText 65536
theorem encT_one (s : RSt) (h : (rTx s).2.2 = 0) : s.2 = 0 ∧ encT (rTx s).1 ++ (rTx s).2.1 = s.1 := rText_one 65536 s h
theorem encT_back (t : List UInt8) (ht : t.length ≤ 65536) (r : List UInt8) : rTx (encT t ++ r, 0) = (t, (r, 0)) := rText_back t r ht 65536 (by omega)

/-- What is read of a packet's bytes, behind its kind. -/
def unB (k : Int) (s : RSt) : Pk × RSt :=
  if k = 0 then (⟨0, [], [], []⟩, rFail 3 s)
  else if k = 4 ∨ k = 5 then (⟨k, [], (readN rHash (rNum 256 s).1.toNat (rNum 256 s).2).1, []⟩, (readN rHash (rNum 256 s).1.toNat (rNum 256 s).2).2)
  else if k = 6 then (⟨k, [], [], (readN rTx (rNum 64 s).1.toNat (rNum 64 s).2).1⟩, (readN rTx (rNum 64 s).1.toNat (rNum 64 s).2).2)
  else (⟨k, (rTx s).1, [], []⟩, (rTx s).2)
def unK (bs : List UInt8) : Pk × RSt := unB (rNum 6 (bs, 0)).1 (rNum 6 (bs, 0)).2
def pk0 : Pk := ⟨0, [], [], []⟩
def unT (bs : List UInt8) : Pk × Int := if rEnd (unK bs).2 ≠ 0 then (pk0, rEnd (unK bs).2) else if RightP (unK bs).1 then ((unK bs).1, 0) else (pk0, 3)
theorem rNum_le (most : Int) (h0 : 0 ≤ most) (s : RSt) : (rNum most s).1 ≤ most := by
  unfold rNum
  split
  · exact h0
  · split
    · exact h0
    · split
      · exact h0
      · split
        · exact h0
        · split
          · exact h0
          · show _ ≤ _; omega
theorem rEnd_ok {s : RSt} (h : rEnd s = 0) : s.2 = 0 ∧ s.1 = [] := by
  unfold rEnd at h
  split at h
  · exact absurd h (by decide)
  · rename_i hn
    refine ⟨h, ?_⟩
    cases e : s.1 with
    | nil => rfl
    | cons a b => exact absurd ⟨h, by rw [e]; simp⟩ hn
theorem pack_unB (k : Int) (s : RSt) (hk0 : k ≠ 0) (h : (unB k s).2.2 = 0) : s.2 = 0 ∧ (unB k s).1.k = k ∧ packP (unB k s).1 ++ (unB k s).2.1 = numB k.toNat ++ s.1 := by
  unfold unB at h ⊢
  rw [if_neg hk0] at h ⊢
  by_cases h45 : k = 4 ∨ k = 5
  · rw [if_pos h45] at h ⊢
    obtain ⟨a1, a2, a3⟩ := readN_one rHash id (fun s hs => rHash_one s hs) _ _ h
    obtain ⟨b1, b2⟩ := rNum_one 256 s a1
    refine ⟨b1, rfl, ?_⟩
    show numB k.toNat ++ _ ++ _ = _
    rw [if_pos h45, a2, List.append_assoc, List.append_assoc]
    show numB k.toNat ++ (_ ++ (_ ++ _)) = _
    rw [a3, b2]
  · rw [if_neg h45] at h ⊢
    by_cases h6 : k = 6
    · rw [if_pos h6] at h ⊢
      obtain ⟨a1, a2, a3⟩ := readN_one rTx encT encT_one _ _ h
      obtain ⟨b1, b2⟩ := rNum_one 64 s a1
      refine ⟨b1, rfl, ?_⟩
      show numB k.toNat ++ _ ++ _ = _
      rw [if_neg h45, if_pos h6, a2, List.append_assoc, List.append_assoc]
      show numB k.toNat ++ (_ ++ (_ ++ _)) = _
      rw [a3, b2]
    · rw [if_neg h6] at h ⊢
      obtain ⟨b1, b2⟩ := encT_one s h
      refine ⟨b1, rfl, ?_⟩
      show numB k.toNat ++ _ ++ _ = _
      rw [if_neg h45, if_neg h6, List.append_assoc]
      show numB k.toNat ++ (_ ++ _) = _
      rw [b2]
theorem rFail_no (e : Int) (he : e ≠ 0) (s : RSt) : (rFail e s).2 ≠ 0 := by
  unfold rFail
  split
  · exact he
  · assumption
/-- The bytes of what was read are the bytes that were read. -/
theorem pack_unT {bs : List UInt8} (h : (unT bs).2 = 0) : RightP (unT bs).1 ∧ packP (unT bs).1 = bs := by
  unfold unT at h ⊢
  by_cases he : rEnd (unK bs).2 ≠ 0
  · rw [if_pos he] at h; exact absurd h he
  · rw [if_neg he] at h ⊢
    by_cases hr : RightP (unK bs).1
    · rw [if_pos hr]
      refine ⟨hr, ?_⟩
      obtain ⟨e1, e2⟩ := rEnd_ok (Classical.not_not.1 he)
      by_cases hk : (rNum 6 (bs, 0)).1 = 0
      · exfalso
        unfold unK unB at e1
        rw [if_pos hk] at e1
        exact rFail_no 3 (by decide) _ e1
      · obtain ⟨a1, a2, a3⟩ := pack_unB _ _ hk e1
        obtain ⟨_, b2⟩ := rNum_one 6 (bs, 0) a1
        have e3 : (unB (rNum 6 (bs, 0)).1 (rNum 6 (bs, 0)).2).2.1 = [] := e2
        rw [e3, List.append_nil, b2] at a3
        exact a3
    · rw [if_neg hr] at h; exact absurd h (show ¬ (3 : Int) = 0 by decide)
/-- What was packed is read as it was. -/
theorem unT_pack {p : Pk} (h : RightP p) (h32 : ∀ x ∈ p.ids, x.length = 32) : unT (packP p) = (p, 0) := by
  have hk : 1 ≤ p.k ∧ p.k ≤ 6 := by rcases h with h | h | h <;> omega
  have e1 : rNum 6 (packP p, 0) = (p.k, ((if p.k = 4 ∨ p.k = 5 then numB p.ids.length ++ p.ids.flatMap id else if p.k = 6 then numB p.ts.length ++ p.ts.flatMap encT else encT p.s), 0)) := by
    have := rNum_back p.k.toNat (by omega) (if p.k = 4 ∨ p.k = 5 then numB p.ids.length ++ p.ids.flatMap id else if p.k = 6 then numB p.ts.length ++ p.ts.flatMap encT else encT p.s) 6 (by omega)
    rw [show ((p.k.toNat : Nat) : Int) = p.k by omega] at this
    exact this
  have e2 : unK (packP p) = (p, ([], 0)) := by
    unfold unK unB
    rw [e1]
    show (if p.k = 0 then _ else _) = _
    rw [if_neg (by omega)]
    rcases h with ⟨h1, h2, h3, h4, h5⟩ | ⟨h1, h2, h3, h4, h5⟩ | ⟨h1, h2, h3, h4, h5⟩
    · have n1 : ¬ (p.k = 4 ∨ p.k = 5) := by omega
      have n2 : ¬ p.k = 6 := by omega
      rw [if_neg n1, if_neg n2, if_neg n1, if_neg n2]
      have := encT_back p.s h5 []
      rw [List.append_nil] at this
      rw [this]
      obtain ⟨k, s, ids, ts⟩ := p
      simp at h3 h4
      subst h3; subst h4; rfl
    · rw [if_pos h1, if_pos h1]
      rw [rNum_back p.ids.length (by omega) _ 256 (by omega)]
      have := readN_back rHash id p.ids [] (fun x hx r => rHash_back x r (h32 x hx))
      rw [List.append_nil] at this
      show (Pk.mk p.k [] (readN rHash ((p.ids.length : Nat) : Int).toNat (p.ids.flatMap id, 0)).1 [], (readN rHash ((p.ids.length : Nat) : Int).toNat (p.ids.flatMap id, 0)).2) = _
      rw [Int.toNat_natCast, this]
      obtain ⟨k, s, ids, ts⟩ := p
      simp at h2 h3
      subst h2; subst h3; rfl
    · have n1 : ¬ (p.k = 4 ∨ p.k = 5) := by omega
      rw [if_neg n1, if_pos h1, if_neg n1, if_pos h1]
      rw [rNum_back p.ts.length (by omega) _ 64 (by omega)]
      have := readN_back rTx encT p.ts [] (fun x hx r => encT_back x (h5 x hx) r)
      rw [List.append_nil] at this
      show (Pk.mk p.k [] [] (readN rTx ((p.ts.length : Nat) : Int).toNat (p.ts.flatMap encT, 0)).1, (readN rTx ((p.ts.length : Nat) : Int).toNat (p.ts.flatMap encT, 0)).2) = _
      rw [Int.toNat_natCast, this]
      obtain ⟨k, s, ids, ts⟩ := p
      simp at h2 h3
      subst h2; subst h3; rfl
  unfold unT
  rw [e2]
  show (if rEnd (([] : List UInt8), 0) ≠ 0 then _ else _) = _
  rw [if_neg (by simp [rEnd]), if_pos h]
/-- Neighbours that rise, rise all. -/
theorem rises_chain {l : List HsT} (h32 : ∀ x ∈ l, x.length = 32) (h : ∀ i a b, l[i]? = some a → l[i + 1]? = some b → cmpT a b < 0) : Rises l := by
  have key : ∀ (d i : Nat) (a b : HsT), l[i]? = some a → l[i + (d + 1)]? = some b → cmpT a b < 0 := by
    intro d
    induction d with
    | zero => exact fun i a b ha hb => h i a b ha hb
    | succ d ih =>
      intro i a b ha hb
      have hlt := (List.getElem?_eq_some_iff.1 hb).1
      obtain ⟨c, hc⟩ : ∃ c, l[i + (d + 1)]? = some c := ⟨_, List.getElem?_eq_getElem (by omega)⟩
      have h1 := ih i a c ha hc
      have h2 := h (i + (d + 1)) c b hc (by rw [show i + (d + 1) + 1 = i + (d + 1 + 1) by omega]; exact hb)
      have l1 := h32 a (List.mem_of_getElem? ha)
      have l2 := h32 c (List.mem_of_getElem? hc)
      have l3 := h32 b (List.mem_of_getElem? hb)
      exact cmpT_trans a c b (by rw [l1, l2]) (by rw [l2, l3]) h1 h2
  refine List.pairwise_iff_getElem.2 fun i j hi hj hij => ?_
  exact key (j - i - 1) i _ _ (List.getElem?_eq_getElem hi) (by rw [show i + (j - i - 1 + 1) = j by omega]; exact List.getElem?_eq_getElem hj)
theorem rises_next {l : List HsT} (h : Rises l) {i : Nat} {a b : HsT} (ha : l[i]? = some a) (hb : l[i + 1]? = some b) : cmpT a b < 0 := by
  obtain ⟨h1, e1⟩ := List.getElem?_eq_some_iff.1 ha
  obtain ⟨h2, e2⟩ := List.getElem?_eq_some_iff.1 hb
  have := List.pairwise_iff_getElem.1 h i (i + 1) h1 h2 (by omega)
  rwa [e1, e2] at this
/-- Only the block, and what is new, has changed. -/
theorem grown_via {a w w' : World} {b : Nat} {row : Option Nat} (h : a.grownBy w (some b)) (k : w.grownBy w' row) (hr : ∀ q, row = some q → q = b ∨ a.heap.size ≤ q) : a.grownBy w' (some b) :=
  ⟨k.os.trans h.os, k.tape.trans h.tape, k.output.trans h.output, Nat.le_trans h.size k.size, fun i hi hne => by
    rw [k.block i (Nat.lt_of_lt_of_le hi h.size) (fun e => by
      rcases hr i e.symm with e1 | e1
      · exact hne (by rw [e1])
      · omega)]
    exact h.block i hi hne⟩
theorem grown_then {a w w' : World} {b : Nat} (h : a.grownBy w (some b)) (k : Below w.heap.size w w') : a.grownBy w' (some b) :=
  ⟨k.os.trans h.os, k.tape.trans h.tape, k.output.trans h.output, Nat.le_trans h.size k.size, fun i hi hne => by
    rw [k.block i (Nat.lt_of_lt_of_le hi h.size)]
    exact h.block i hi hne⟩
/-- Texts too long. -/
def longT (t : List UInt8) : Bool := decide (65536 < t.length)
theorem right_123 {k : Int} {s : List UInt8} {ids : List HsT} {ts : List (List UInt8)} (hk : 1 ≤ k ∧ k ≤ 3) : RightP ⟨k, s, ids, ts⟩ ↔ ids = [] ∧ ts = [] ∧ s.length ≤ 65536 := by
  unfold RightP
  constructor
  · rintro (h | h | h)
    · exact h.2.2
    · have := h.1; simp at this; omega
    · have := h.1; simp at this; omega
  · exact fun h => .inl ⟨hk.1, hk.2, h⟩
theorem right_45 {k : Int} {s : List UInt8} {ids : List HsT} {ts : List (List UInt8)} (hk : k = 4 ∨ k = 5) : RightP ⟨k, s, ids, ts⟩ ↔ s = [] ∧ ts = [] ∧ ids.length ≤ 256 ∧ Rises ids := by
  unfold RightP
  constructor
  · rintro (h | h | h)
    · have := h.2.1; simp at this; omega
    · exact h.2
    · have := h.1; simp at this; omega
  · exact fun h => .inr (.inl ⟨hk, h⟩)
theorem right_6 {k : Int} {s : List UInt8} {ids : List HsT} {ts : List (List UInt8)} (hk : k = 6) : RightP ⟨k, s, ids, ts⟩ ↔ s = [] ∧ ids = [] ∧ ts.length ≤ 64 ∧ ∀ t ∈ ts, t.length ≤ 65536 := by
  unfold RightP
  constructor
  · rintro (h | h | h)
    · have := h.2.1; simp at this; omega
    · have := h.1; simp at this; omega
    · exact h.2
  · exact fun h => .inr (.inr ⟨hk, h⟩)
theorem right_no {p : Pk} (hk : p.k < 1 ∨ 6 < p.k) : ¬ RightP p := by
  rintro (h | h | h)
  · omega
  · omega
  · omega
theorem dFalse {D : Bool} {P : Prop} (h : D = true ↔ P) (hp : ¬ P) : D = false := by cases D with | false => rfl | true => exact absurd (h.1 rfl) hp
theorem dTrue {D : Bool} {P : Prop} (h : D = true ↔ P) (hp : P) : D = true := h.2 hp
end Go.Proofs.Ytlomofcnknpciaa
