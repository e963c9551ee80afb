/-
  WireCut: what bytes that are cut off are read as: plain.
-/
import Derived.Test.YtfmendgbmkclkaaWireWritesWalk
import Derived.Test.YtfmendgbmkclkaaWireBack
set_option linter.unusedSimpArgs false
set_option linter.unusedVariables false
namespace Go.Proofs.Ytfmendgbmkclkaa
open Go.RowKit

theorem numB_head (n : Nat) (hn : n ≤ 4611686018427387903) : ∃ c t, numB n = c :: t ∧ t.length + 1 = 2 ^ (c.toNat / 64) := by
  have key : ∀ (c : UInt8) (t : List UInt8) (K : Nat), c.toNat / 64 = K → t.length + 1 = 2 ^ K → ∃ c' t', c :: t = c' :: t' ∧ t'.length + 1 = 2 ^ (c'.toNat / 64) := fun c t K h1 h2 => ⟨c, t, rfl, by rw [h1]; exact h2⟩
  unfold numB
  split
  · exact key _ _ 0 (by simp; omega) rfl
  · split
    · exact key _ _ 1 (by simp; omega) rfl
    · split
      · exact key _ _ 2 (by simp; omega) rfl
      · exact key _ _ 3 (by simp; omega) rfl
theorem rNum_cut (n : Nat) (hn : n ≤ 4611686018427387903) (most : Int) (m : Nat) (hm : m < (numB n).length) : (rNum most ((numB n).take m, 0)).2.2 = 2 := by
  obtain ⟨c, t, h1, h2⟩ := numB_head n hn
  rw [h1] at hm ⊢
  cases m with
  | zero => simp [rNum]
  | succ m =>
    simp only [List.length_cons] at hm
    have : (t.take m).length + 1 < 2 ^ (c.toNat / 64) := by rw [List.length_take, ← h2]; omega
    simp [rNum, List.take_succ_cons]
    rw [if_pos (by rw [List.length_take] at this; omega)]
theorem rText_cut (t : List UInt8) (ht : t.length ≤ 65536) (m : Nat) (hm : m < (numB t.length ++ t).length) : (rText 65536 ((numB t.length ++ t).take m, 0)).2.2 = 2 := by
  rw [List.length_append] at hm
  by_cases h : m < (numB t.length).length
  · have e : (numB t.length ++ t).take m = (numB t.length).take m := by rw [List.take_append_of_le_length (by omega)]
    have hc := rNum_cut t.length (by omega) 65536 m h
    rw [e]
    unfold rText
    simp [hc]
  · have e : (numB t.length ++ t).take m = numB t.length ++ t.take (m - (numB t.length).length) := by rw [List.take_append, List.take_of_length_le (by omega)]
    have hb := rNum_back t.length (by omega) (t.take (m - (numB t.length).length)) (min 65536 65536) (by omega)
    rw [e]
    unfold rText
    simp only [hb]
    rw [if_neg (by simp), if_pos (by rw [List.length_take]; omega)]
theorem rHash_cut (h : List UInt8) (hh : h.length = 32) (m : Nat) (hm : m < 32) : (rHash (h.take m, 0)).2.2 = 2 := by
  unfold rHash
  rw [if_neg (by simp), if_pos (by simp only [List.length_take]; omega)]

/-- What is put of a thing here: a digest or a text. -/
def cutV (x : Thing) : List UInt8 := if x.k.toNat % 2 = 0 then x.h else numB x.s.length ++ x.s
def cutOk (x : Thing) : Prop := x.k.toNat % 2 = 0 ∨ x.s.length ≤ 65536
def cutsB (xs : List Thing) : List UInt8 := xs.flatMap cutV
theorem cutsB_cons (x : Thing) (xs : List Thing) : cutsB (x :: xs) = cutV x ++ cutsB xs := by simp [cutsB]

/-- A digest is read of bytes that are cut off. -/
theorem cut_hash (x : Thing) (hx : x.ok) (hk : x.k.toNat % 2 = 0) (rest : List UInt8) (m : Nat) (hm : m < (cutV x ++ rest).length) :
    (rHash ((cutV x ++ rest).take m, 0)).2.2 = 2 ∨ (rHash ((cutV x ++ rest).take m, 0) = (x.h, (rest.take (m - 32), 0)) ∧ m - 32 < rest.length) := by
  have hv : cutV x = x.h := if_pos hk
  have hh := hx.h1
  rw [hv] at hm ⊢
  rw [List.length_append] at hm
  by_cases h : m < 32
  · left
    rw [List.take_append_of_le_length (by omega)]
    exact rHash_cut x.h hh m h
  · right
    rw [List.take_append, List.take_of_length_le (by omega), hh]
    exact ⟨rHash_back x.h _ hh, by omega⟩
theorem cut_text (x : Thing) (hk : ¬ x.k.toNat % 2 = 0) (ht : x.s.length ≤ 65536) (rest : List UInt8) (m : Nat) (hm : m < (cutV x ++ rest).length) :
    (rText 65536 ((cutV x ++ rest).take m, 0)).2.2 = 2 ∨ (rText 65536 ((cutV x ++ rest).take m, 0) = (x.s, (rest.take (m - (cutV x).length), 0)) ∧ m - (cutV x).length < rest.length) := by
  have hv : cutV x = numB x.s.length ++ x.s := if_neg hk
  rw [List.length_append] at hm
  by_cases h : m < (cutV x).length
  · left
    rw [List.take_append_of_le_length (by omega), hv]
    rw [hv] at h
    exact rText_cut x.s ht m h
  · right
    rw [List.take_append, List.take_of_length_le (by omega)]
    refine ⟨?_, by omega⟩
    rw [hv]
    exact rText_back x.s _ ht 65536 (by omega)
/-- What the reader's state is, over bytes that were cut off. -/
def CutSt (xs : List Thing) (st : List UInt8 × Int) : Prop := st.2 = 2 ∨ ∃ m, st = ((cutsB xs).take m, 0) ∧ m < (cutsB xs).length
theorem cutSt_nil {st : List UInt8 × Int} (h : CutSt [] st) : st.2 = 2 := by
  rcases h with h | ⟨m, _, h⟩
  · exact h
  · simp [cutsB] at h
theorem rHash_err {st : List UInt8 × Int} (h : st.2 = 2) : (rHash st).2 = st := by simp [rHash, h]
theorem rText_err {st : List UInt8 × Int} (h : st.2 = 2) : (rText 65536 st).2 = st := by simp [rText, rNum, h]
theorem cut_stepH (x : Thing) (xs : List Thing) (hx : x.ok) (hk : x.k.toNat % 2 = 0) (st : List UInt8 × Int) (h : CutSt (x :: xs) st) :
    CutSt xs (rHash st).2 ∧ ((rHash st).2.2 = 2 ∨ ((rHash st).2.2 = 0 ∧ (rHash st).1 = x.h)) := by
  rcases h with h | ⟨m, rfl, hm⟩
  · rw [rHash_err h]; exact ⟨.inl h, .inl h⟩
  · rw [cutsB_cons] at hm ⊢
    rcases cut_hash x hx hk (cutsB xs) m hm with e | ⟨e, e2⟩
    · exact ⟨.inl e, .inl e⟩
    · rw [e]; exact ⟨.inr ⟨_, rfl, e2⟩, .inr ⟨rfl, rfl⟩⟩
theorem cut_stepT (x : Thing) (xs : List Thing) (hk : ¬ x.k.toNat % 2 = 0) (ht : x.s.length ≤ 65536) (st : List UInt8 × Int) (h : CutSt (x :: xs) st) :
    CutSt xs (rText 65536 st).2 ∧ ((rText 65536 st).2.2 = 2 ∨ ((rText 65536 st).2.2 = 0 ∧ (rText 65536 st).1 = x.s)) := by
  rcases h with h | ⟨m, rfl, hm⟩
  · rw [rText_err h]; exact ⟨.inl h, .inl h⟩
  · rw [cutsB_cons] at hm ⊢
    rcases cut_text x hk ht (cutsB xs) m hm with e | ⟨e, e2⟩
    · exact ⟨.inl e, .inl e⟩
    · rw [e]; exact ⟨.inr ⟨_, rfl, e2⟩, .inr ⟨rfl, rfl⟩⟩
theorem rHash_l (st : List UInt8 × Int) : (rHash st).2.1.length ≤ st.1.length := by
  unfold rHash; split
  · simp
  · split <;> simp
theorem rText_l (st : List UInt8 × Int) : (rText 65536 st).2.1.length ≤ st.1.length := by
  have h := rNum_len (min 65536 65536) st
  simp only [rText]
  split
  · exact h
  · split
    · exact h
    · simp only [List.length_drop]; omega
theorem rHash_1 (st : List UInt8 × Int) : (rHash st).1.length = 32 := by
  unfold rHash; split
  · simp
  · split
    · simp
    · simp only [List.length_take]; omega

/-- The writer's side: what was put. -/
def cutOkB (x : Thing) : Bool := x.k.toNat % 2 == 0 || decide (x.s.length ≤ 65536)
def cutS (x : Thing) (bs : List UInt8) : List UInt8 := if cutOkB x then bs ++ cutV x else bs
def cutsS (xs : List Thing) : List UInt8 := xs.foldl (fun bs x => cutS x bs) []
def cutsOk (xs : List Thing) : Bool := xs.all cutOkB
theorem cutsS_snoc (xs : List Thing) (x : Thing) : cutsS (xs ++ [x]) = cutS x (cutsS xs) := by simp [cutsS]
theorem cutsOk_snoc (xs : List Thing) (x : Thing) : cutsOk (xs ++ [x]) = (cutsOk xs && cutOkB x) := by simp [cutsOk]
theorem cutsS_aux (xs : List Thing) (h : ∀ x ∈ xs, cutOkB x = true) (bs : List UInt8) : xs.foldl (fun bs x => cutS x bs) bs = bs ++ cutsB xs := by
  induction xs generalizing bs with
  | nil => simp [cutsB]
  | cons x xs ih =>
    have hx : cutOkB x = true := h x (by simp)
    rw [List.foldl_cons, ih (fun y hy => h y (by simp [hy])), cutS, if_pos hx, cutsB_cons, List.append_assoc]
theorem cutsS_eq (xs : List Thing) (h : cutsOk xs = true) : cutsS xs = cutsB xs := by
  rw [cutsS, cutsS_aux xs (by simpa [cutsOk] using h)]; simp
theorem cutV_len (x : Thing) (hx : x.ok) : (cutV x).length ≤ x.s.length + 40 := by
  unfold cutV; split
  · have := hx.h1; omega
  · have := numB_len x.s.length; rw [List.length_append]; omega
theorem cutsS_len_aux (xs : List Thing) (h : ∀ x ∈ xs, x.ok) (bs : List UInt8) : (xs.foldl (fun bs x => cutS x bs) bs).length ≤ bs.length + tot xs + 40 * xs.length := by
  induction xs generalizing bs with
  | nil => simp [tot]
  | cons x xs ih =>
    have hx := cutV_len x (h x (by simp))
    have hi := ih (fun y hy => h y (by simp [hy])) (cutS x bs)
    have hc : (cutS x bs).length ≤ bs.length + (x.s.length + 40) := by
      unfold cutS; split
      · rw [List.length_append]; omega
      · omega
    have ht : tot (x :: xs) = x.s.length + tot xs := by simp [tot]
    rw [List.foldl_cons, ht, List.length_cons]
    omega
theorem cutsS_len (xs : List Thing) (h : ∀ x ∈ xs, x.ok) : (cutsS xs).length ≤ tot xs + 40 * xs.length := by
  have := cutsS_len_aux xs h []; simpa [cutsS] using this
theorem cutW_hash (base b : Nat) (bs : List UInt8) (bad : Bool) (x : Thing) (hx : x.ok) (w : World) (h : WriterIs base w b bs bad) (hs : base ≤ w.heap.size) (hl : bs.length ≤ 274877906944) (hk : x.k.toNat % 2 = 0) :
    Calls Try.prog 24 #[.pointer (some ⟨b, 0, none⟩), .agg (x.h.map bv).toArray] w fun e w' => e = .returned (.tuple #[]) ∧ WriterIs base w' b (cutS x bs) (bad || !cutOkB x) ∧ WK base w w' := by
  have R1 : cutOkB x = true := by simp [cutOkB, hk]
  have R3 : cutS x bs = bs ++ x.h := by simp [cutS, cutV, R1, hk]
  refine (hash_calls base b bs x.h bad w h hs (by omega) hx.h1).mono fun e w' ⟨a, c, d⟩ => ⟨a, ?_, d⟩
  rw [R3, R1]; simpa using c
theorem cutW_text (base b : Nat) (bs : List UInt8) (bad : Bool) (x : Thing) (hx : x.ok) (w : World) (h : WriterIs base w b bs bad) (hs : base ≤ w.heap.size) (hl : bs.length ≤ 274877906944) (hk : ¬ x.k.toNat % 2 = 0) :
    Calls Try.prog 21 #[.pointer (some ⟨b, 0, none⟩), .string (str x.s)] w fun e w' => e = .returned (.tuple #[]) ∧ WriterIs base w' b (cutS x bs) (bad || !cutOkB x) ∧ WK base w w' := by
  have hk' : x.k.toNat % 2 = 1 := by omega
  by_cases h0 : x.s.length ≤ 65536
  · have R1 : cutOkB x = true := by simp [cutOkB, h0]
    have R3 : cutS x bs = bs ++ (numB x.s.length ++ x.s) := by simp [cutS, cutV, R1, hk']
    refine (textOk_calls base b bs bad x.s w h hs (by omega) h0).mono fun e w' ⟨a, c, d⟩ => ⟨a, ?_, d⟩
    rw [R3, R1]; simpa [List.append_assoc] using c
  · have R1 : cutOkB x = false := by simp [cutOkB, hk']; omega
    have R3 : cutS x bs = bs := by simp [cutS, R1]
    refine (textBad_calls base b bs bad x.s w h (by omega) hx.s1).mono fun e w' ⟨a, c, d⟩ => ⟨a, ?_, d⟩
    rw [R3, R1]; simpa using c
end Go.Proofs.Ytfmendgbmkclkaa
