/-
  WireWrites: whatever is put, one behind the other, is the document's bytes; what can't be put spoils the writer for good: for every list of things.
-/
import Derived.Test.YtfmendgbmkclkaaWireAwake
import Derived.Test.YtfmendgbmkclkaaWirePut
set_option linter.unusedSimpArgs false
set_option linter.unusedVariables false
namespace Go.Proofs.Ytfmendgbmkclkaa
open Go.RowKit

/-- What has been put after k things. -/
def putsS (xs : List Thing) : List UInt8 := xs.foldl (fun bs x => putS x bs) []
def putsB (xs : List Thing) : List UInt8 := xs.flatMap putB
def putsOk (xs : List Thing) : Bool := xs.all putOk
theorem putsS_snoc (xs : List Thing) (x : Thing) : putsS (xs ++ [x]) = putS x (putsS xs) := by simp [putsS]
theorem putsB_snoc (xs : List Thing) (x : Thing) : putsB (xs ++ [x]) = putsB xs ++ putB x := by simp [putsB]
theorem putsOk_snoc (xs : List Thing) (x : Thing) : putsOk (xs ++ [x]) = (putsOk xs && putOk x) := by simp [putsOk]
theorem putsS_eq (xs : List Thing) (h : putsOk xs = true) : putsS xs = putsB xs := by
  have key : ∀ (xs : List Thing) (bs : List UInt8), putsOk xs = true → xs.foldl (fun bs x => putS x bs) bs = bs ++ putsB xs := by
    intro xs
    induction xs with
    | nil => intro bs _; simp [putsB]
    | cons x xs ih =>
      intro bs h
      simp only [putsOk, List.all_cons, Bool.and_eq_true] at h
      rw [List.foldl_cons, ih _ h.2]
      simp [putS, putsB, putB, h.1]
  simpa [putsS] using key xs [] h
theorem putV_len (x : Thing) (hx : x.ok) (h : putOk x = true) : (putV x).length ≤ 40 + x.s.length := by
  unfold putV
  split
  · have := numB_len x.n.toNat; omega
  · split
    · have := numB_len x.s.length; simp; omega
    · split
      · have := hx.h1; omega
      · simp; omega
theorem putsS_len (xs : List Thing) (hx : ∀ x ∈ xs, x.ok) : (putsS xs).length ≤ 40 * xs.length + tot xs := by
  have key : ∀ (xs : List Thing) (bs : List UInt8), (∀ x ∈ xs, x.ok) → (xs.foldl (fun bs x => putS x bs) bs).length ≤ bs.length + 40 * xs.length + tot xs := by
    intro xs
    induction xs with
    | nil => intro bs _; simp [tot]
    | cons x xs ih =>
      intro bs h
      rw [List.foldl_cons]
      have h1 := ih (putS x bs) (fun y hy => h y (by simp [hy]))
      have h2 : (putS x bs).length ≤ bs.length + 40 + x.s.length := by
        unfold putS
        split
        · rename_i ho
          have := putV_len x (h x (by simp)) ho
          simp; omega
        · omega
      have h3 : tot (x :: xs) = x.s.length + tot xs := by simp [tot]
      rw [h3, List.length_cons]
      omega
  have := key xs [] hx
  rw [List.length_nil, Nat.zero_add] at this
  exact this
theorem putsB_len (xs : List Thing) (hx : ∀ x ∈ xs, x.ok) : (putsB xs).length ≤ 40 * xs.length + tot xs := by
  induction xs with
  | nil => simp [putsB, tot]
  | cons x xs ih =>
    have h1 := ih (fun y hy => hx y (by simp [hy]))
    have h2 : (putB x).length ≤ 40 + x.s.length := by
      unfold putB
      split
      · rename_i ho; exact putV_len x (hx x (by simp)) ho
      · simp
    have h3 : tot (x :: xs) = x.s.length + tot xs := by simp [tot]
    have h4 : putsB (x :: xs) = putB x ++ putsB xs := by simp [putsB]
    rw [h3, h4, List.length_append, List.length_cons]
    omega
theorem Try.sizeThing : (Try.prog.info? 42).map (·.size) = some 36 := by kernel_rfl

set_option maxHeartbeats 2000000 in
set_option maxRecDepth 100000 in
theorem writes_yes (w : World) (ao : Option Addr) (len cap : Nat) (xs : List Thing) (h : Things w ao len xs) (hl : len ≤ 300) (ht : tot xs ≤ 200000) :
    Calls Try.prog 4 #[.slice ao len cap] w fun e w' => e = .returned (.bool true) ∧ Below w.heap.size w w' := by
  have HT := Lib.hid ht
  have HH := Lib.hid h
  clear ht h
  go_enter Try.func4, Try.ntmps4
  go_wp2_with fail
  refine (awake_calls _).mono ?_
  rintro e w1 ⟨rfl, b1⟩
  go_wp2_with fail
  refine (fewYes_calls _ _ _ _ _ (HH.out.below b1) hl HT.out).mono ?_
  rintro e w2 ⟨rfl, rfl⟩
  go_wp2_with fail
  refine (New_calls _).mono ?_
  rintro e w3 ⟨rfl, h3, b3⟩
  obtain ⟨B, hB⟩ : ∃ B, B = w1.heap.size := ⟨_, rfl⟩
  rw [← hB] at h3 b3 ⊢
  have hwB : w.heap.size ≤ B := by rw [hB]; exact b1.size
  have HbB := Lib.hid hB
  have hB3 : B ≤ w3.heap.size := by rw [hB]; exact b3.size
  clear hB
  have H3 := Lib.hid h3
  have HB3 : Hid (Below w.heap.size w w3) := b1.trans (b3.mono hwB)
  clear h3 b3 b1
  go_wp2_with fail
  go_loopw [4, 5, 6] (fun want good i wr => ∃ (k : Nat) (bs : List UInt8) (g : Bool), k ≤ len ∧ i = .int .i64 k ∧ want = .string (str bs) ∧ good = .bool g ∧ bs.length ≤ 300000 ∧ Hid (bs = putsB (xs.take k)) ∧ Hid (g = putsOk (xs.take k)) ∧ WriterIs B wr B (putsS (xs.take k)) (!g) ∧ B ≤ wr.heap.size ∧ Hid (Below w.heap.size w wr)) (fun _ _ i _ => len - (intOf i).toNat)
  case atStart => exact ⟨0, [], true, by omega, rfl, rfl, rfl, by decide, rfl, rfl, H3.out, hB3, HB3⟩
  case round =>
    obtain ⟨k, bs, g, hk, rfl, rfl, rfl, hbl, hbs, hg, hwr, hBr, hbr⟩ := hrel
    have hx := HH.out.1
    by_cases hlt : k < len
    · have hkx : k < xs.length := by omega
      rcases (HH.out.below hbr.out).2.2 with h0' | ⟨b, off, rfl, hbw, hcc⟩
      · omega
      have hR := hcc k hkx
      have hok := HH.out.2.1 _ (List.getElem_mem hkx)
      have e1 : Hid (putsB (xs.take (k + 1)) = putsB (xs.take k) ++ putB xs[k]) := by show _ = _; rw [List.take_succ_eq_append_getElem hkx, putsB_snoc]
      have e2 : Hid (putsOk (xs.take (k + 1)) = (putsOk (xs.take k) && putOk xs[k])) := by show _ = _; rw [List.take_succ_eq_append_getElem hkx, putsOk_snoc]
      have e3 : Hid (putsS (xs.take (k + 1)) = putS xs[k] (putsS (xs.take k))) := by show _ = _; rw [List.take_succ_eq_append_getElem hkx, putsS_snoc]
      have hls : Hid ((putsS (xs.take k)).length ≤ 274877906944) := by
        show _ ≤ _
        have := putsS_len (xs.take k) (fun x hx => HH.out.2.1 x (List.mem_of_mem_take hx))
        have := tot_take xs k
        have := HT.out
        have : (xs.take k).length ≤ 300 := by rw [List.length_take]; omega
        omega
      have hlb : (putsB (xs.take (k + 1))).length ≤ 300000 := by
        have := putsB_len (xs.take (k + 1)) (fun x hx => HH.out.2.1 x (List.mem_of_mem_take hx))
        have := tot_take xs (k + 1)
        have := HT.out
        have : (xs.take (k + 1)).length ≤ 300 := by rw [List.length_take]; omega
        omega
      rw [e1.out, List.length_append, ← hbs.out] at hlb
      have hlp : (putB xs[k]).length ≤ 300000 := by omega
      obtain ⟨x, hxe⟩ : ∃ x, x = xs[k] := ⟨_, rfl⟩
      rw [← hxe] at e1 e2 e3 hR hok hlp hlb
      have HXE := Lib.hid hxe
      have HOK := Lib.hid hok
      have HR := Lib.hid hR
      have HX := Lib.hid hx
      clear hxe hcc hx hok hR
      go_wp2_with ((with_reducible show wpList _ _ _ (⟨some 31, _, _, _, _, _⟩ :: _) _ _); refine wpList_load_mid rfl 42 (.tmp 30) rfl b (off + k * 36) (by rfl) x.cells _ HR.out Try.underlying42 rfl (by rw [Thing.len x HOK.out.h1]; exact Try.sizeThing) ?_)
      refine (put_calls B B _ _ x HOK.out _ hwr hBr hls.out).mono ?_
      rintro e w4 ⟨rfl, h4, k4⟩
      have hx4 : Hid (WriterIs B w4 B (putsS (xs.take (k + 1))) (!g || !putOk x)) := by show WriterIs _ _ _ _ _; rw [e3.out]; exact h4
      have hb4 : Hid (Below w.heap.size w w4) := hbr.out.trans (k4.below.mono hwB)
      have hs4 : B ≤ w4.heap.size := Nat.le_trans hBr k4.size
      have e1' : Hid (bs ++ putB x = putsB (xs.take (k + 1))) := by show _ = _; rw [hbs.out, e1.out]
      have e2' : Hid ((g && putOk x) = putsOk (xs.take (k + 1))) := by show _ = _; rw [hg.out, e2.out]
      obtain ⟨p, hp⟩ : ∃ p, p = putB x := ⟨_, rfl⟩
      obtain ⟨o, ho⟩ : ∃ o, o = putOk x := ⟨_, rfl⟩
      rw [← hp] at e1' hlp hlb ⊢
      rw [← ho] at hx4 e2' ⊢
      clear hp ho e1 e2 e3 h4 k4 hwr hls HR HOK HXE
      cases g
      all_goals
        go_wp2
        go_roundw
        case rel =>
          exact ⟨k + 1, bs ++ p, _, by omega, by go_num, rfl, rfl, by rw [List.length_append]; exact hlb, e1', e2', by simpa using hx4.out, hs4, hb4⟩
        case measure => simp [intOf]; omega
    · have hkl : xs.take k = xs := List.take_of_length_le (by omega)
      rw [hkl] at hbs hg hwr
      have hx' : putsOk xs = true → putsS xs = putsB xs := putsS_eq xs
      cases g with
      | true =>
        have hS : putsS xs = bs := by rw [hx' hg.out.symm, hbs.out]
        rw [hS] at hwr
        clear hx' hS hkl hx
        go_wp2_with fail
        refine (endOk_calls B _ _ _ hwr).mono ?_
        rintro e w5 ⟨rfl, rfl⟩
        go_wp2
        go_returns
        exact ⟨by simp, hbr.out⟩
      | false =>
        clear hx' hkl hx
        go_wp2_with fail
        refine (endBad_calls B _ _ _ hwr).mono ?_
        rintro e w5 ⟨rfl, rfl⟩
        go_wp2
        go_returns
        exact ⟨rfl, hbr.out⟩

theorem writes_no (w : World) (ao : Option Addr) (len cap : Nat) (xs : List Thing) (h : Things w ao len xs) (hm : len ≤ maxLen) (hno : ¬ (len ≤ 300 ∧ tot xs ≤ 200000)) :
    Calls Try.prog 4 #[.slice ao len cap] w fun e w' => e = .returned (.bool true) ∧ Below w.heap.size w w' := by
  have HH := Lib.hid h
  have HN := Lib.hid hno
  have HM := Lib.hid hm
  clear h hno hm
  go_enter Try.func4, Try.ntmps4
  go_wp2_with fail
  refine (awake_calls _).mono ?_
  rintro e w1 ⟨rfl, b1⟩
  go_wp2_with fail
  refine (fewNo_calls _ _ _ _ _ (HH.out.below b1) HM.out HN.out).mono ?_
  rintro e w2 ⟨rfl, rfl⟩
  go_wp2_with fail
  refine (awake_calls _).mono ?_
  rintro e w3 ⟨rfl, b3⟩
  go_wp2
  go_returns
  exact ⟨rfl, b1.trans (b3.mono b1.size)⟩

theorem walkWireWrites {H : Type} {enc : TypeId × Value → H} (v : Value) {d : DataW H} {p : List MemPlace} {r : Reach} {b0 : Nat} {w : World} (hv : Value.okWide Try.prog w r b0 35 v)
    (h : DataW.Trod enc Try.prog w 0 (fun _ => true) true 35 v d p) :
    Calls Try.prog 4 #[v] w fun e w' => e = .returned (.bool true) ∧ Below w.heap.size w w' := by
  have hT0 := open_things hv h
  obtain ⟨ao, len, cap, xs, rfl, hm, hT⟩ := hT0
  by_cases hf : len ≤ 300 ∧ tot xs ≤ 200000
  · exact writes_yes _ _ _ _ _ hT hf.1 hf.2
  · exact writes_no _ _ _ _ _ hT hm hf
end Go.Proofs.Ytfmendgbmkclkaa
