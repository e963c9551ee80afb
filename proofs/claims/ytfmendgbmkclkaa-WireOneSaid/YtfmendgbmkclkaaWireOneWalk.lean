/-
  WireOne: there is one form for each thing: for all bytes and kinds.
-/
import Derived.Test.YtfmendgbmkclkaaWireAwake
import Derived.Test.YtfmendgbmkclkaaWireOneLaw
import Derived.Test.YtfmendgbmkclkaaThings
set_option linter.unusedSimpArgs false
set_option linter.unusedVariables false
namespace Go.Proofs.Ytfmendgbmkclkaa
open Go.RowKit

def oneRun (ks : List UInt8) (s : List UInt8) : List UInt8 × (List UInt8 × Int) := ks.foldl (fun st k => oneStep k.toNat st) ([], (s, 0))
theorem oneRun_snoc (ks : List UInt8) (k : UInt8) (s : List UInt8) : oneRun (ks ++ [k]) s = oneStep k.toNat (oneRun ks s) := by simp [oneRun]
theorem oneRun_inv (ks : List UInt8) (s : List UInt8) : (oneRun ks s).2.2 = 0 → (oneRun ks s).1 ++ (oneRun ks s).2.1 = s := by
  have key : ∀ (ks : List UInt8) (st : List UInt8 × (List UInt8 × Int)), (st.2.2 = 0 → st.1 ++ st.2.1 = s) → (ks.foldl (fun st k => oneStep k.toNat st) st).2.2 = 0 → (ks.foldl (fun st k => oneStep k.toNat st) st).1 ++ (ks.foldl (fun st k => oneStep k.toNat st) st).2.1 = s := by
    intro ks
    induction ks with
    | nil => intro st h; exact h
    | cons k ks ih => intro st h; rw [List.foldl_cons]; exact ih _ (oneStep_inv _ _ _ h)
  exact key ks ([], (s, 0)) (by simp)
theorem oneRun_len (ks : List UInt8) (s : List UInt8) : (oneRun ks s).1.length ≤ 70000 * ks.length ∧ (oneRun ks s).2.1.length ≤ s.length := by
  have key : ∀ (ks : List UInt8) (st : List UInt8 × (List UInt8 × Int)), (ks.foldl (fun st k => oneStep k.toNat st) st).1.length ≤ st.1.length + 70000 * ks.length ∧ (ks.foldl (fun st k => oneStep k.toNat st) st).2.1.length ≤ st.2.1.length := by
    intro ks
    induction ks with
    | nil => intro st; simp
    | cons k ks ih =>
      intro st
      rw [List.foldl_cons, List.length_cons]
      have h1 := ih (oneStep k.toNat st)
      have h2 := oneStep_len k.toNat st
      have h3 := oneStep_left k.toNat st
      omega
  have := key ks ([], (s, 0))
  simpa [oneRun] using this

set_option maxHeartbeats 4000000 in
set_option maxRecDepth 100000 in
theorem one_yes (w : World) (s : List UInt8) (ao : Option Addr) (len cap : Nat) (ks : List UInt8) (h : U8s w ao len ks) (hl : len ≤ 300) (hs : s.length ≤ 200000) :
    Calls Try.prog 9 #[.string (str s), .slice ao len cap] w fun e w' => e = .returned (.bool true) ∧ Below w.heap.size w w' := by
  have HH := Lib.hid h
  clear h
  go_enter Try.func9, Try.ntmps9
  go_wp2_with fail
  refine (awake_calls _).mono ?_
  rintro e w1 ⟨rfl, b1⟩
  go_wp2_with fail
  refine (From_calls s _).mono ?_
  rintro e w2 ⟨rfl, h2, b2⟩
  go_wp2_with fail
  refine (New_calls _).mono ?_
  rintro e w3 ⟨rfl, h3, b3⟩
  obtain ⟨A, hA⟩ : ∃ A, A = w1.heap.size := ⟨_, rfl⟩
  obtain ⟨B, hB⟩ : ∃ B, B = w2.heap.size := ⟨_, rfl⟩
  have hAB : A < B := by rw [hA, hB]; exact Blk.lt h2
  have hR3 : ReaderIs w3 A (s, 0) := by rw [hA]; exact Blk.below h2 b3 (Blk.lt h2)
  rw [← hA] at h2 b2 ⊢
  rw [← hB] at h3 b3 ⊢
  have hwA : w.heap.size ≤ A := by rw [hA]; exact b1.size
  have hB3 : B ≤ w3.heap.size := by rw [hB]; exact b3.size
  have hbel3 : Hid (Below w.heap.size w w3) := b1.trans ((b2.mono hwA).trans (b3.mono (by omega)))
  have HR3 := Lib.hid hR3
  have H3 := Lib.hid h3
  clear hA hB h2 b2 b3 h3 hR3 b1
  go_wp2_with fail
  go_loopw [7] (fun i wr => ∃ k : Nat, k ≤ len ∧ i = .int .i64 k ∧ ReaderIs wr A (oneRun (ks.take k) s).2 ∧ WriterIs B wr B (oneRun (ks.take k) s).1 false ∧ B ≤ wr.heap.size ∧ Hid (Below w.heap.size w wr)) (fun i _ => len - (intOf i).toNat)
  case atStart => exact ⟨0, by omega, rfl, HR3.out, H3.out, hB3, hbel3⟩
  case round =>
    obtain ⟨k, hk, rfl, hR, hW, hBs, hbel⟩ := hrel
    have hx := HH.out.1
    by_cases hlt : k < len
    · have hkx : k < ks.length := by omega
      rcases (HH.out.below hbel.out).2 with h0' | ⟨b, off, rfl, hbw, hcc⟩
      · omega
      have hc := hcc k hkx 0 _ rfl
      have hsn : oneRun (ks.take (k + 1)) s = oneStep ks[k].toNat (oneRun (ks.take k) s) := by rw [List.take_succ_eq_append_getElem hkx, oneRun_snoc]
      have hlen := oneRun_len (ks.take k) s
      have hlk : (ks.take k).length ≤ 300 := by rw [List.length_take]; omega
      have hl1 : (oneRun (ks.take k) s).1.length ≤ 274877906944 := by omega
      have hl2 : (oneRun (ks.take k) s).2.1.length ≤ 1099511627776 := by omega
      obtain ⟨c, hce⟩ : ∃ c, c = ks[k] := ⟨_, rfl⟩
      rw [← hce] at hc hsn
      generalize hst : oneRun (ks.take k) s = st at hR hW hsn hl1 hl2
      have HS : Hid (oneRun (ks.take (k + 1)) s = oneStep c.toNat st) := hsn
      have HCE := Lib.hid hce
      have HX := Lib.hid hx
      have HL2 := Lib.hid hl2
      have HL1 := Lib.hid hl1
      clear hce hcc hst hsn hlen hx hl1 hl2 hlk
      rw [Nat.add_zero, Nat.mul_one] at hc
      unfold bv at hc
      have hcl : c.toNat < 256 := c.toNat_lt
      have h4 : c.toNat % 4 = 0 ∨ c.toNat % 4 = 1 ∨ c.toNat % 4 = 2 ∨ c.toNat % 4 = 3 := by omega
      rcases h4 with h4 | h4 | h4 | h4
      · have hci : (c.toNat : Int) % 4 = 0 := by omega
        have HE : Hid (oneStep c.toNat st = (st.1 ++ numB (rNum 4611686018427387903 st.2).1.toNat, (rNum 4611686018427387903 st.2).2)) := by show _ = _; rw [oneStep, if_pos h4]
        clear h4
        go_wp2_with fail
        refine (RNum_calls A st.2 4611686018427387903 _ hR HL2.out).mono ?_
        rintro e w4 ⟨rfl, hR4, g4⟩
        have hW4 := hW.grown g4 (by intro q hq; cases hq; exact hAB)
        have hs4 : B ≤ w4.heap.size := Nat.le_trans hBs g4.size
        go_wp2_with fail
        refine (num_calls B B _ _ _ _ hW4 hs4 (by have := HL1.out; omega) (rNum_nonneg _ _) (rNum_max _ _)).mono ?_
        rintro e w5 ⟨rfl, hW5, k5⟩
        have hR5 : ReaderIs w5 A (rNum 4611686018427387903 st.2).2 := Blk.below hR4 k5.below hAB
        have hb5 : Hid (Below w.heap.size w w5) := hbel.out.trans ((grown_below g4 hwA (by have := hbel.out.size; omega)).trans (k5.below.mono (by omega)))
        have hs5 : B ≤ w5.heap.size := Nat.le_trans hs4 k5.size
        clear hW4 hR4 g4 hR hW k5 hbel hBs hs4
        go_wp2_with fail
        go_roundw
        case rel => exact ⟨k + 1, by omega, by go_num, by rw [HS.out, HE.out]; exact hR5, by rw [HS.out, HE.out]; exact hW5, hs5, hb5⟩
        case measure => simp [intOf]; omega
      · have hci : (c.toNat : Int) % 4 = 1 := by omega
        have HE : Hid (oneStep c.toNat st = (st.1 ++ numB (rText 65536 st.2).1.length ++ (rText 65536 st.2).1, (rText 65536 st.2).2)) := by show _ = _; rw [oneStep, if_neg (by omega), if_pos h4]
        clear h4
        go_wp2_with fail
        refine (RText_calls A st.2 65536 _ hR HL2.out).mono ?_
        rintro e w4 ⟨rfl, hR4, g4⟩
        have hW4 := hW.grown g4 (by intro q hq; cases hq; exact hAB)
        have hs4 : B ≤ w4.heap.size := Nat.le_trans hBs g4.size
        go_wp2_with fail
        refine (textOk_calls B B _ _ _ _ hW4 hs4 (by have := HL1.out; omega) (rText_len _ _)).mono ?_
        rintro e w5 ⟨rfl, hW5, k5⟩
        have hR5 : ReaderIs w5 A (rText 65536 st.2).2 := Blk.below hR4 k5.below hAB
        have hb5 : Hid (Below w.heap.size w w5) := hbel.out.trans ((grown_below g4 hwA (by have := hbel.out.size; omega)).trans (k5.below.mono (by omega)))
        have hs5 : B ≤ w5.heap.size := Nat.le_trans hs4 k5.size
        clear hW4 hR4 g4 hR hW k5 hbel hBs hs4
        go_wp2_with fail
        go_roundw
        case rel => exact ⟨k + 1, by omega, by go_num, by rw [HS.out, HE.out]; exact hR5, by rw [HS.out, HE.out]; exact hW5, hs5, hb5⟩
        case measure => simp [intOf]; omega
      · have hci : (c.toNat : Int) % 4 = 2 := by omega
        have HE : Hid (oneStep c.toNat st = (st.1 ++ (rHash st.2).1, (rHash st.2).2)) := by show _ = _; rw [oneStep, if_neg (by omega), if_neg (by omega), if_pos h4]
        clear h4
        go_wp2_with fail
        refine (RHash_calls A st.2 _ hR HL2.out).mono ?_
        rintro e w4 ⟨rfl, hR4, g4⟩
        have hW4 := hW.grown g4 (by intro q hq; cases hq; exact hAB)
        have hs4 : B ≤ w4.heap.size := Nat.le_trans hBs g4.size
        go_wp2_with fail
        refine (hash_calls B B _ _ _ _ hW4 hs4 (by have := HL1.out; omega) (rHash_len _)).mono ?_
        rintro e w5 ⟨rfl, hW5, k5⟩
        have hR5 : ReaderIs w5 A (rHash st.2).2 := Blk.below hR4 k5.below hAB
        have hb5 : Hid (Below w.heap.size w w5) := hbel.out.trans ((grown_below g4 hwA (by have := hbel.out.size; omega)).trans (k5.below.mono (by omega)))
        have hs5 : B ≤ w5.heap.size := Nat.le_trans hs4 k5.size
        clear hW4 hR4 g4 hR hW k5 hbel hBs hs4
        go_wp2_with fail
        go_roundw
        case rel => exact ⟨k + 1, by omega, by go_num, by rw [HS.out, HE.out]; exact hR5, by rw [HS.out, HE.out]; exact hW5, hs5, hb5⟩
        case measure => simp [intOf]; omega
      · have hci : (c.toNat : Int) % 4 = 3 := by omega
        have HE : Hid (oneStep c.toNat st = (st.1 ++ [flagB (rFlag st.2).1], (rFlag st.2).2)) := by show _ = _; rw [oneStep, if_neg (by omega), if_neg (by omega), if_neg (by omega)]
        clear h4
        go_wp2_with fail
        refine (RFlag_calls A st.2 _ hR HL2.out).mono ?_
        rintro e w4 ⟨rfl, hR4, g4⟩
        have hW4 := hW.grown g4 (by intro q hq; cases hq; exact hAB)
        have hs4 : B ≤ w4.heap.size := Nat.le_trans hBs g4.size
        go_wp2_with fail
        refine (flag_calls B B _ _ _ _ hW4 hs4 (by have := HL1.out; omega)).mono ?_
        rintro e w5 ⟨rfl, hW5, k5⟩
        have hR5 : ReaderIs w5 A (rFlag st.2).2 := Blk.below hR4 k5.below hAB
        have hb5 : Hid (Below w.heap.size w w5) := hbel.out.trans ((grown_below g4 hwA (by have := hbel.out.size; omega)).trans (k5.below.mono (by omega)))
        have hs5 : B ≤ w5.heap.size := Nat.le_trans hs4 k5.size
        clear hW4 hR4 g4 hR hW k5 hbel hBs hs4
        go_wp2_with fail
        go_roundw
        case rel => exact ⟨k + 1, by omega, by go_num, by rw [HS.out, HE.out]; exact hR5, by rw [HS.out, HE.out]; exact hW5, hs5, hb5⟩
        case measure => simp [intOf]; omega
    · have hkl : ks.take k = ks := List.take_of_length_le (by omega)
      rw [hkl] at hR hW
      have hlen := oneRun_len ks s
      have hinv := oneRun_inv ks s
      generalize oneRun ks s = st at hR hW hinv hlen
      obtain ⟨bs, l, err⟩ := st
      have HI := Lib.hid hinv
      clear hinv hkl hlen hx
      go_wp2_with fail
      refine (REnd_calls A (l, err) _ hR).mono ?_
      rintro e w4 ⟨rfl, rfl⟩
      by_cases he : rEnd (l, err) = 0
      · have hle : err = 0 ∧ l = [] := by
          simp only [rEnd] at he
          by_cases h0 : err = 0
          · by_cases h1 : l = []
            · exact ⟨h0, h1⟩
            · simp [h0, h1] at he
          · simp [h0] at he
        obtain ⟨rfl, rfl⟩ := hle
        have HBS : Hid (bs = s) := by have := HI.out rfl; show bs = s; simpa using this
        rw [he]
        clear he
        go_wp2_with fail
        refine (endOk_calls B _ _ _ hW).mono ?_
        rintro e w5 ⟨rfl, rfl⟩
        rw [HBS.out]
        go_wp2
        go_returns
        exact ⟨by simp, hbel.out⟩
      · have he' : (rEnd (l, err) != 0) = true := by simp [he]
        clear he
        go_wp2
        go_returns
        exact ⟨rfl, hbel.out⟩

set_option maxRecDepth 100000 in
theorem one_no (w : World) (s : List UInt8) (ao : Option Addr) (len cap : Nat) (hm : s.length ≤ maxLen) (hm2 : len ≤ maxLen) (hno : 200000 < s.length ∨ 300 < len) :
    Calls Try.prog 9 #[.string (str s), .slice ao len cap] w fun e w' => e = .returned (.bool true) ∧ Below w.heap.size w w' := by
  unfold maxLen at hm hm2
  by_cases h1 : 200000 < s.length
  all_goals
    go_enter Try.func9, Try.ntmps9
    go_wp2_with fail
    refine (awake_calls _).mono ?_
    rintro e w1 ⟨rfl, b1⟩
  · go_wp2_with fail
    refine (awake_calls _).mono ?_
    rintro e w3 ⟨rfl, b3⟩
    go_wp2
    go_returns
    exact ⟨rfl, b1.trans (b3.mono b1.size)⟩
  · have h2 : s.length ≤ 200000 := by omega
    have h3 : (300 : Int) < len := by omega
    clear h1 hno
    go_wp2_with fail
    refine (awake_calls _).mono ?_
    rintro e w3 ⟨rfl, b3⟩
    go_wp2
    go_returns
    exact ⟨rfl, b1.trans (b3.mono b1.size)⟩

theorem walkWireOne {H : Type} {enc : TypeId × Value → H} (s : List UInt8) (ws : s.length ≤ maxLen) (v : Value) {d : DataW H} {p : List MemPlace} {r : Reach} {b0 : Nat} {w : World} (hv : Value.okWide Try.prog w r b0 61 v)
    (h : DataW.Trod enc Try.prog w 0 (fun _ => true) true 61 v d p) :
    Calls Try.prog 9 #[.string (str s), v] w fun e w' => e = .returned (.bool true) ∧ Below w.heap.size w w' := by
  obtain ⟨ao, len, cap, xs, rfl, hm, hT⟩ := open_u8s Try.underlying61 hv h
  by_cases hf : 200000 < s.length ∨ 300 < len
  · exact one_no _ _ _ _ _ ws hm hf
  · exact one_yes _ _ _ _ _ _ hT (by omega) (by omega)
end Go.Proofs.Ytfmendgbmkclkaa
