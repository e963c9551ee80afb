/-
  PprUnpacks: any bytes are a row, or refused; what was packed is unpacked as it was.
-/
import Derived.Test.YtnfegmcdljejnaaPprRefUnpack
import Derived.Test.YtnfegmcdljejnaaPprAwake
set_option linter.unusedSimpArgs false
set_option linter.unusedVariables false
namespace Go.Proofs.Ytnfegmcdljejnaa
open Go.RowKit

/-- Is a place below a seed of the list? -/
def belowQ (B : Nat) (ask : Int) (s : Sd) : Bool := decide (0 ≤ ask) && (ask.toNat / 2 ^ (B - s.lv) == s.pl)
def thereT (B : Nat) (ask : Int) (l : List Sd) : Bool := l.any (belowQ B ask)
theorem there_snoc (B : Nat) (ask : Int) (l : List Sd) (k : Nat) (s : Sd) (h : l[k]? = some s) : thereT B ask (l.take (k + 1)) = (thereT B ask (l.take k) || belowQ B ask s) := by
  obtain ⟨h3, h4⟩ := List.getElem?_eq_some_iff.1 h
  rw [thereT, List.take_succ_eq_append_getElem h3, List.any_append, h4, thereT]
  simp
theorem gone_there (B : Nat) (ask : Int) (l : List Sd) (hB : B ≤ 32) (hok : RowOk B l) : goneT B ask l = !(thereT B ask l) := by
  have hpw : ∀ s ∈ l, s.pl < 2 ^ s.lv := fun s hs => (hok.1 s hs).2
  have hlv : ∀ s ∈ l, s.lv ≤ B := fun s hs => (hok.1 s hs).1
  by_cases hw : withinT B ask = true
  · have hw2 : 0 ≤ ask ∧ ask < ((2 ^ B : Nat) : Int) := by simpa [withinT] using hw
    rw [goneT, hw, Bool.not_true, Bool.false_or]
    have e : thereT B ask l = l.any fun s => ask.toNat / 2 ^ (B - s.lv) == s.pl := by
      unfold thereT belowQ
      congr 1
      funext s
      simp [hw2.1]
    rw [e, findT]
    cases hf : l.findIdx? (fun s => ask.toNat / 2 ^ (B - s.lv) == s.pl) with
    | none =>
      rw [List.findIdx?_eq_none_iff] at hf
      have : (l.any fun s => ask.toNat / 2 ^ (B - s.lv) == s.pl) = false := by
        rw [List.any_eq_false]
        intro s hs
        rw [hf s hs]
        simp
      rw [this]; rfl
    | some i =>
      have hi : (l.findIdx? fun s => ask.toNat / 2 ^ (B - s.lv) == s.pl).isSome = true := by rw [hf]; rfl
      rw [List.findIdx?_isSome] at hi
      rw [hi]; rfl
  · have hw2 : withinT B ask = false := by simpa using hw
    rw [goneT, hw2, Bool.not_false, Bool.true_or]
    have : thereT B ask l = false := by
      rw [thereT, List.any_eq_false]
      intro s hs
      unfold belowQ
      by_cases h0 : 0 ≤ ask
      · have h1 : ¬ (ask < ((2 ^ B : Nat) : Int)) := fun h => by
          have : withinT B ask = true := by simp [withinT]; exact ⟨h0, by simpa using h⟩
          rw [this] at hw2; cases hw2
        have h2 : 2 ^ B ≤ ask.toNat := by omega
        have h3 : 2 ^ s.lv ≤ ask.toNat / 2 ^ (B - s.lv) := by
          rw [Nat.le_div_iff_mul_le (Nat.pow_pos (by omega)), ← Nat.pow_add, show s.lv + (B - s.lv) = B by have := hlv s hs; omega]
          exact h2
        have h4 := hpw s hs
        have : (ask.toNat / 2 ^ (B - s.lv) == s.pl) = false := by rw [beq_eq_false_iff_ne]; omega
        rw [this]; simp
      · simp [h0]
    rw [this]; rfl
theorem RowAt.drewN {w : World} {r B : Nat} {l : List Sd} (h : RowAt w r B l) (n : Nat) : RowAt (w.drewN n) r B l := h.below (below_drewN (Below.refl _ _) n)
theorem SeedsAt.drewN {w : World} {v : Value} {l : List Sd} (h : SeedsAt w v l) (n : Nat) : SeedsAt (w.drewN n) v l := h.below (below_drewN (Below.refl _ _) n)
theorem shrAsk (ask : Int) (h0 : 0 ≤ ask) (k : Nat) : ask / (2 : Int) ^ k = ((ask.toNat / 2 ^ k : Nat) : Int) := by
  obtain ⟨n, rfl⟩ : ∃ n : Nat, ask = n := ⟨ask.toNat, by omega⟩
  simp
set_option maxHeartbeats 4000000 in
set_option maxRecDepth 100000 in
theorem walkPprUnpacks (bs : List UInt8) (ws : bs.length ≤ maxLen) (b : Int) (hwb : (Lit.int .i64 b).wf = true) (ask : Int) (hwa : (Lit.int .i64 ask).wf = true) (w : World) :
    Calls Try.prog 20 #[.string (str bs), .int .i64 b, .int .i64 ask] w fun e w' => e = .returned (.bool true) ∧ Below w.heap.size w w' := by
  unfold maxLen at ws
  have ha1 : -9223372036854775808 ≤ ask ∧ ask ≤ 9223372036854775807 := ⟨(bounds_i64 hwa).1, (bounds_i64 hwa).2⟩
  clear hwb hwa
  by_cases h24 : 20000 < bs.length
  · go_enter Try.func20, Try.ntmps20
    go_wp2_with fail
    refine (awake6_calls _).mono ?_
    rintro e w1 ⟨rfl, b1⟩
    go_wp2_with fail
    refine (awake6_calls _).mono ?_
    rintro e w2 ⟨rfl, b2⟩
    go_wp2_with fail
    go_returns
    exact ⟨rfl, b1.trans (b2.mono b1.size)⟩
  by_cases hb : b < 1 ∨ 32 < b
  · have hBAD := Lib.hid hb
    by_cases hb1 : b < 1
    all_goals
      go_enter Try.func20, Try.ntmps20
      go_wp2_with fail
      refine (awake6_calls _).mono ?_
      rintro e w1 ⟨rfl, b1⟩
      go_wp2_with fail
      refine (UnpackBad_calls bs b _ hBAD.out).mono ?_
      rintro e w2 ⟨rfl, b2⟩
      go_wp2_with fail
      go_returns
      exact ⟨rfl, b1.trans (b2.mono b1.size)⟩
  obtain ⟨B, rfl⟩ : ∃ B : Nat, b = B := ⟨b.toNat, by omega⟩
  have hB1 : 1 ≤ B := by omega
  have hB2 : B ≤ 32 := by omega
  have hbl : bs.length ≤ 1000000 := by omega
  clear hb
  have hok := upT_ok B bs
  have hpk := upT_pack B bs
  obtain ⟨E, hE⟩ : ∃ E, E = rEnd (upT B bs).s := ⟨_, rfl⟩
  obtain ⟨L, hL⟩ : ∃ L, L = (upT B bs).l := ⟨_, rfl⟩
  have c1 : ∀ y, Calls Try.prog 80 #[.string (str bs), .int .i64 B] y fun e w' => ∃ p, e = .returned (.tuple #[p, .int .i64 E]) ∧ ((E = 0 ∧ ∃ r, p = .pointer (some ⟨r, 0, none⟩) ∧ y.heap.size ≤ r ∧ RowAt w' r B L) ∨ (E ≠ 0 ∧ p = .pointer none)) ∧ Below y.heap.size y w' := fun y => by rw [hE, hL]; exact Unpack_calls bs B y hB1 hB2 hbl
  have c2 : ∀ y, Calls Try.prog 81 #[.string (str bs), .int .i64 B] y fun e w' => ∃ v, e = .returned (.tuple #[v, .int .i64 E]) ∧ SeedsAt w' v L ∧ Below y.heap.size y w' := fun y => by rw [hE, hL]; exact RUnpack_calls bs B y hB1 hB2 hbl
  rw [← hE, ← hL] at hpk
  rw [← hL] at hok
  have HOK := Lib.hid hok
  have HPK := Lib.hid hpk
  clear hE hL hok hpk
  by_cases hE0 : E = 0
  · subst hE0
    have hpk := HPK.out rfl
    have c3 : ∀ r y, RowAt y r B L → Calls Try.prog 79 #[.pointer (some ⟨r, 0, none⟩)] y fun e w' => e = .returned (.string (str bs)) ∧ Below y.heap.size y w' := fun r y hy => by rw [← hpk]; exact Pack_calls r B L y hy hB2 HOK.out.1
    obtain ⟨T, hT⟩ : ∃ T, T = thereT B ask L := ⟨_, rfl⟩
    have c4 : ∀ r y, RowAt y r B L → Calls Try.prog 40 #[.pointer (some ⟨r, 0, none⟩), .int .i64 ask] y fun e w' => e = .returned (.bool (!T)) ∧ Below y.heap.size y w' := fun r y hy => by rw [hT, ← gone_there B ask L hB2 HOK.out.1]; exact Gone_calls r B ask L y hy hB2 (fun s hs => (HOK.out.1.1 s hs).1) HOK.out.1.2 ha1.1 ha1.2
    have HT := Lib.hid hT
    obtain ⟨n, hne⟩ : ∃ n, n = L.length := ⟨_, rfl⟩
    have hnl : n ≤ 1000000 := by rw [hne]; exact HOK.out.1.2
    have HN := Lib.hid hne
    obtain ⟨TH, hTH⟩ : ∃ f, f = thereT B ask := ⟨_, rfl⟩
    have HTH := Lib.hid hTH
    clear hpk HPK hT hne hTH
    go_enter Try.func20, Try.ntmps20
    go_wp2_with fail
    refine (awake6_calls _).mono ?_
    rintro e w1 ⟨rfl, b1⟩
    go_wp2_with fail
    refine (c1 _).mono ?_
    rintro e w2 ⟨p, rfl, hp, b2⟩
    obtain ⟨r, rfl, hr, hR⟩ : ∃ r, p = .pointer (some ⟨r, 0, none⟩) ∧ w1.heap.size ≤ r ∧ RowAt w2 r B L := by
      rcases hp with ⟨_, h⟩ | ⟨h, _⟩
      · exact h
      · exact absurd rfl h
    have hb2 := b1.trans (b2.mono b1.size)
    have HR := Lib.hid hR
    clear hp b1 b2 hR c1
    go_wp2_with fail
    refine (c2 _).mono ?_
    rintro e w3 ⟨v, rfl, hS, b3⟩
    obtain ⟨sa, sc, rfl, hsc⟩ := hS.slice
    have HR3 := Lib.hid (HR.out.below b3)
    have HS3 := Lib.hid hS
    have hb3 := Lib.hid (hb2.trans (b3.mono hb2.size))
    rw [← HN.out] at hsc HS3 ⊢
    clear hS b3 HR hb2 c2
    go_wp2_with fail
    go_loopw [11, 12] (fun z i wr => ∃ (k : Nat) (th : Bool), k ≤ n ∧ z = .bool th ∧ i = .int .i64 (k : Nat) ∧ Hid (th = TH (L.take k)) ∧ Hid (RowAt wr r B L) ∧ Hid (SeedsAt wr (.slice sa n sc) L) ∧ Hid (Below w.heap.size w wr)) (fun _ i _ => n - (intOf i).toNat)
    case atStart => exact ⟨0, false, by omega, rfl, rfl, by show _ = _; rw [HTH.out]; rfl, HR3, HS3, hb3⟩
    case round =>
      obtain ⟨k, th, hk, rfl, rfl, HH, hR, hS, hB⟩ := hrel
      clear HR3 HS3 hb3
      by_cases hlt : k < n
      · obtain ⟨g, rfl⟩ : ∃ g, sa = some ⟨g, 0, none⟩ := by
          have hn1 := HN.out
          rcases hS.out.2 with ⟨h3, h4⟩ | ⟨g, c', h3, h4, h5⟩
          · rw [h4] at hn1; simp at hn1; omega
          · simp at h3; exact ⟨g, h3.1⟩
        obtain ⟨s, hs⟩ : ∃ s, L[k]? = some s := ⟨L[k]'(by rw [← HN.out]; exact hlt), List.getElem?_eq_getElem _⟩
        obtain ⟨hlv, hpl⟩ := HOK.out.1.1 s (List.mem_of_getElem? hs)
        have hc0 := hS.out.range k s hs 0 _ rfl
        have hc1 := hS.out.range k s hs 1 _ rfl
        rw [Nat.mul_comm] at hc0 hc1
        rw [Nat.add_zero] at hc0
        have hnx : Hid (TH (L.take (k + 1)) = (th || belowQ B ask s)) := by show _ = _; rw [HH.out, HTH.out]; exact there_snoc B ask L k s hs
        obtain ⟨lv, pl, dg⟩ := s
        have hlv : lv ≤ B := hlv
        simp only at hc0 hc1
        clear hs hpl HH
        cases th
        · by_cases h0 : 0 ≤ ask
          · obtain ⟨q, hq⟩ : ∃ q, q = ask.toNat / 2 ^ (B - lv) := ⟨_, rfl⟩
            have HQ : Hid (ask / (2 : Int) ^ (B - lv) = (q : Int)) := by show _ = _; rw [hq]; exact shrAsk ask h0 _
            have hnx2 : Hid (TH (L.take (k + 1)) = (q == pl)) := by show _ = _; rw [hnx.out, belowQ, hq]; simp [h0]
            clear hnx hq
            by_cases hqp : q = pl
            · subst hqp
              go_wp2_with fail
              go_big_quiet (fail)
              go_wp2_with fail
              go_roundw
              case rel => exact ⟨k + 1, true, by omega, by rw [HQ.out]; simp, by go_num, by show _ = _; rw [hnx2.out]; simp, RowAt.drewN hR.out _, SeedsAt.drewN hS.out _, below_drewN hB.out _⟩
              case measure => simp [intOf]; omega
            · have hne : ((q : Int) == (pl : Int)) = false := by rw [beq_eq_false_iff_ne]; omega
              go_wp2_with fail
              go_big_quiet (fail)
              go_wp2_with fail
              go_roundw
              case rel => exact ⟨k + 1, false, by omega, by rw [HQ.out, hne], by go_num, by show _ = _; rw [hnx2.out]; simp [hqp], RowAt.drewN hR.out _, SeedsAt.drewN hS.out _, below_drewN hB.out _⟩
              case measure => simp [intOf]; omega
          · have hd0 : decide (0 ≤ ask) = false := by simp [h0]
            have hnx2 : Hid (TH (L.take (k + 1)) = false) := by show _ = _; rw [hnx.out, belowQ, hd0]; rfl
            clear hnx hc0 hc1
            go_wp2_with fail
            go_big_quiet (fail)
            go_wp2_with fail
            go_roundw
            case rel => exact ⟨k + 1, false, by omega, rfl, by go_num, by show _ = _; rw [hnx2.out], RowAt.drewN hR.out _, SeedsAt.drewN hS.out _, below_drewN hB.out _⟩
            case measure => simp [intOf]; omega
        · have hnx2 : Hid (TH (L.take (k + 1)) = true) := by show _ = _; rw [hnx.out]; rfl
          clear hnx hc0 hc1
          go_wp2_with fail
          go_big_quiet (fail)
          go_wp2_with fail
          go_roundw
          case rel => exact ⟨k + 1, true, by omega, rfl, by go_num, by show _ = _; rw [hnx2.out], RowAt.drewN hR.out _, SeedsAt.drewN hS.out _, below_drewN hB.out _⟩
          case measure => simp [intOf]; omega
      · have hke : k = n := by omega
        have hth : th = T := by rw [HH.out, HTH.out, HT.out, hke, HN.out, List.take_length]
        subst hth
        clear HH
        go_wp2_with fail
        refine (c3 r _ hR.out).mono ?_
        rintro e w5 ⟨rfl, b5⟩
        have hR5 := hR.out.below b5
        have hb5 := hB.out.trans (b5.mono hB.out.size)
        go_wp2_with fail
        refine (c4 r _ hR5).mono ?_
        rintro e w6 ⟨rfl, b6⟩
        go_wp2_with fail
        go_returns
        exact ⟨by simp, hb5.trans (b6.mono hb5.size)⟩
  · have hez : (E == 0) = false := by simp [hE0]
    have hez2 : (E != 0) = true := by simp [hE0]
    have hez3 : decide (E = 0) = false := by simp [hE0]
    go_enter Try.func20, Try.ntmps20
    go_wp2_with fail
    refine (awake6_calls _).mono ?_
    rintro e w1 ⟨rfl, b1⟩
    go_wp2_with fail
    refine (c1 _).mono ?_
    rintro e w2 ⟨p, rfl, hp, b2⟩
    obtain rfl : p = .pointer none := by
      rcases hp with ⟨h, _⟩ | ⟨_, h⟩
      · exact absurd h hE0
      · exact h
    have hb2 := b1.trans (b2.mono b1.size)
    clear hp b1 b2 c1
    go_wp2_with fail
    refine (c2 _).mono ?_
    rintro e w3 ⟨v, rfl, hS, b3⟩
    have hb3 := hb2.trans (b3.mono hb2.size)
    clear hS b3 hb2 c2
    go_wp2_with fail
    go_returns
    exact ⟨rfl, hb3⟩
end Go.Proofs.Ytnfegmcdljejnaa
