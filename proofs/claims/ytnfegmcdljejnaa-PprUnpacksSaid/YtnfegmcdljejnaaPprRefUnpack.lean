/-
  The document's rows: Unpack: any bytes are a row's seeds, or refused.
-/
import Derived.Test.YtnfegmcdljejnaaPprUnpack
import Derived.Test.YtnfegmcdljejnaaPprDoc
import Derived.Test.YtnfegmcdljejnaaWireRefRH
set_option linter.unusedSimpArgs false
set_option linter.unusedVariables false
namespace Go.Proofs.Ytnfegmcdljejnaa
open Go.RowKit

theorem RefIs.lt {w : World} {b : Nat} {s : List UInt8 × Int} (h : RefIs w b s) : b < w.heap.size := Blk.lt h
theorem RefIs.below {w w' : World} {b : Nat} {s : List UInt8 × Int} (h : RefIs w b s) (bl : Below w.heap.size w w') : RefIs w' b s := Blk.below h bl (Blk.lt h)
theorem RefIs.grownB {w w' : World} {b M : Nat} {s : List UInt8 × Int} (h : RefIs w b s) (gr : w.grownBy w' (some M)) (h1 : b ≠ M) : RefIs w' b s := Blk.grown h gr (by simpa using h1)
theorem RefIs.grownO {w w' : World} {b : Nat} {row : Option Nat} {s : List UInt8 × Int} (h : RefIs w b s) (gr : w.grownBy w' row) (h1 : ∀ q, row = some q → b ≠ q) : RefIs w' b s := Blk.grown h gr (fun e => h1 b e.symm rfl)
theorem RefIs.err {w : World} {b : Nat} {l : List UInt8} {e : Int} (h : RefIs w b (l, e)) : w.cell? ⟨b, 1, none⟩ = some (.int .i64 e) := by
  have h1 : Blk w b #[.string (str l), .int .i64 e] 177 := h
  exact h1.cell 1 _ rfl
/-- The document's list of seeds, a row of one's own. -/
def DocOwn (w : World) (base : Nat) (v : Value) (l : List Sd) : Prop := w.ownsRow base 94 34 v l.length (l.flatMap Sd.cells)
theorem DocOwn.below {w w' : World} {base : Nat} {v : Value} {l : List Sd} (h : DocOwn w base v l) (bl : Below w.heap.size w w') : DocOwn w' base v l := own_below h bl
theorem DocOwn.keptB {w w' : World} {base : Nat} {v : Value} {l : List Sd} {M : Nat} (h : DocOwn w base v l) (gr : w.grownBy w' (some M)) (h2 : ∀ q, v.ownBlock = some q → q ≠ M) : DocOwn w' base v l := World.ownsRow.kept h gr (.inr (fun e => h2 M e rfl))
theorem DocOwn.own {w : World} {base : Nat} {v : Value} {l : List Sd} (h : DocOwn w base v l) : ∀ q, v.ownBlock = some q → base ≤ q ∧ q < w.heap.size := fun q hq => World.ownsRow.lt h q hq
theorem mulW (p D Q : Nat) (h : Q = p * D) (hQ : Q ≤ 4294967296) : wrap64 ((p : Int) * (D : Int)) = (Q : Int) := by
  have : ((p : Int) * (D : Int)) = ((p * D : Nat) : Int) := by simp
  rw [this, ← h]
  unfold wrap64; omega
theorem mulLe (p B lv : Nat) (h : lv ≤ B) (hB : B ≤ 32) (hp : p ≤ 2 ^ lv) : p * 2 ^ (B - lv) ≤ 4294967296 := by
  have h1 : p * 2 ^ (B - lv) ≤ 2 ^ B := by
    calc p * 2 ^ (B - lv) ≤ 2 ^ lv * 2 ^ (B - lv) := Nat.mul_le_mul_right _ hp
      _ = 2 ^ B := by rw [← Nat.pow_add]; congr 1; omega
  have h2 : (2 ^ B : Nat) ≤ 4294967296 := Nat.pow_le_pow_right (n := 2) (by omega) hB
  omega
theorem Try.zeroA32 : (Try.prog.info? 22).bind (·.zero) = some (.agg Z32) := by kernel_rfl
theorem Try.builtRefU (l : List UInt8) : Try.prog.built 177 [(0, .string (str l))] = some #[.string (str l), .int .i64 0] := by kernel_rfl
set_option maxHeartbeats 4000000 in
set_option maxRecDepth 100000 in
theorem RUnpack_calls (bs : List UInt8) (B : Nat) (w : World) (hB1 : 1 ≤ B) (hB2 : B ≤ 32) (hbs : bs.length ≤ 1000000) :
    Calls Try.prog 81 #[.string (str bs), .int .i64 B] w fun e w' => ∃ v, e = .returned (.tuple #[v, .int .i64 (rEnd (upT B bs).s)]) ∧ SeedsAt w' v (upT B bs).l ∧ Below w.heap.size w w' := by
  have hupN := upN_le bs
  obtain ⟨n, hn⟩ : ∃ n, n = upN bs := ⟨_, rfl⟩
  rw [← hn] at hupN
  have HUP : Hid (upT B bs = upAt B (up0 bs) n) := by show _ = _; rw [hn]; rfl
  have HL0 : Hid ((up0 bs).s.1.length ≤ 1099511627776) := by show _ ≤ _; have h9 := rNum_len 65536 (bs, 0); show (rNum 65536 (bs, 0)).2.1.length ≤ _; simp only at h9; omega
  obtain ⟨X, hX⟩ : ∃ X, X = upT B bs := ⟨_, rfl⟩
  rw [← hX] at HUP ⊢
  have hnle : n ≤ 65536 := hupN.1
  have c0 : ∀ R y, RefIs y R (bs, 0) → Calls Try.prog 127 #[.pointer (some ⟨R, 0, none⟩), .int .i64 65536] y fun e w' => e = .returned (.int .i64 (n : Nat)) ∧ RefIs w' R (up0 bs).s ∧ y.grownBy w' (some R) := fun R y hy => by
    have h9 := RefRNum_calls R (bs, 0) 65536 y hy (by simp only; omega)
    rw [← hupN.2] at h9
    exact h9
  obtain ⟨u0, hu0⟩ : ∃ u, u = up0 bs := ⟨_, rfl⟩
  have hu1 : u0.l = [] := by rw [hu0]; rfl
  have hu2 : u0.e = 0 := by rw [hu0]; rfl
  rw [← hu0] at HUP HL0 c0
  obtain ⟨UA, hUA⟩ : ∃ f, f = upAt B u0 := ⟨_, rfl⟩
  rw [← hUA] at HUP
  have HUA := Lib.hid hUA
  clear hX hu0 hn hupN hUA
  go_enter Try.func81, Try.ntmps81
  have hR2 : RefIs (w.alloc (.cells #[.string (str bs), .int .i64 0] 177)) w.heap.size (bs, 0) := Blk.new w #[.string (str bs), .int .i64 0] 177
  have hb2 := below_alloc1 w (.cells #[.string (str bs), .int .i64 0] 177)
  go_wp2_with ((with_reducible show wpList _ _ _ (⟨some 15, _, _, _, _, _⟩ :: _) _ _); refine wpList_buildCells rfl 177 #[(0, .tmp 14)] rfl #[.string (str bs), .int .i64 0] (Try.builtRefU _) ?_)
  obtain ⟨W2, hW2⟩ : ∃ W, W = w.alloc (.cells #[.string (str bs), .int .i64 0] 177) := ⟨_, rfl⟩
  obtain ⟨R, hRe⟩ : ∃ R, R = w.heap.size := ⟨_, rfl⟩
  rw [← hW2] at hR2 hb2 ⊢
  have hRw : w.heap.size ≤ R := by omega
  rw [← hRe] at hR2 ⊢
  have hRl := hR2.lt
  clear hW2 hRe
  refine (c0 R _ hR2).mono ?_
  rintro e w3 ⟨rfl, hR3, g3⟩
  have hb3 := Lib.hid (hb2.grown g3 hb2.size (fun q e => by cases e; exact hRw))
  have HR3 := Lib.hid hR3
  obtain ⟨base, hba⟩ : ∃ b, b = R + 1 := ⟨_, rfl⟩
  have HBA := Lib.hid hba
  have hRb : R < base := by omega
  have HO3 : Hid (DocOwn w3 base (.slice none 0 0) []) := World.ownsRow_nil _ _ _ _
  clear hR3 g3 hR2 hb2 c0 hba hRl
  go_wp2_with fail
  go_loopw [8, 9, 10] (fun y z i wr => ∃ (k : Nat) (x : Up) (v : Value), k ≤ n ∧ v = y ∧ z = .int .i64 (x.e : Nat) ∧ i = .int .i64 (k : Nat) ∧ Hid (x = UA k) ∧ Hid (RefIs wr R x.s) ∧ Hid (DocOwn wr base v x.l) ∧ Hid (Below w.heap.size w wr) ∧ Hid (x.s.1.length ≤ 1099511627776)) (fun _ _ i _ => n - (intOf i).toNat)
  case atStart => exact ⟨0, u0, _, by omega, rfl, by rw [hu2]; rfl, rfl, by show _ = _; rw [HUA.out]; rfl, HR3, by rw [hu1]; exact HO3, hb3, HL0⟩
  case round =>
    obtain ⟨k, ⟨L, E, S⟩, v, hkn, rfl, rfl, rfl, HX, hR, hO, hB, HL⟩ := hrel
    obtain ⟨sl, se⟩ := S
    clear HR3 HO3 hb3 HL0
    have hbw : base ≤ wr.heap.size := by rw [HBA.out]; exact hR.out.lt
    have HQ : Hid (∀ q, v.ownBlock = some q → base ≤ q) := fun q hq => (hO.out.own q hq).1
    have HQ2 : Hid (∀ q, v.ownBlock = some q → q < wr.heap.size) := fun q hq => (hO.out.own q hq).2
    have hlok := upAt_ok B u0 hu1 k
    rw [← HUA.out, ← HX.out] at hlok
    have HL32 : Hid (∀ s ∈ L, s.h.length = 32) := fun s hs => (hlok.1 s hs).2.2
    have hLl : L.length ≤ 1000000 := by have := hlok.2.1; simp only at this; omega
    clear hlok
    by_cases hkn2 : k < n
    · by_cases hse : se = 0
      · subst hse
        obtain ⟨lv, s1, ha, hl1, _⟩ := rNum_nat (sl, 0)
        have c1 : ∀ y, RefIs y R (sl, 0) → Calls Try.prog 127 #[.pointer (some ⟨R, 0, none⟩), .int .i64 4611686018427387903] y fun e w' => e = .returned (.int .i64 (lv : Nat)) ∧ RefIs w' R s1 ∧ y.grownBy w' (some R) := fun y hy => by have h9 := RefRNum_calls R (sl, 0) maxN y hy HL.out; rw [ha] at h9; exact h9
        have hl1 : s1.1.length ≤ sl.length := hl1
        have hL9 : sl.length ≤ 1099511627776 := HL.out
        by_cases hlv : lv ≤ B
        · obtain ⟨pl, s2, hb, hl2, _⟩ := rNum_nat s1
          have c2 : ∀ y, RefIs y R s1 → Calls Try.prog 127 #[.pointer (some ⟨R, 0, none⟩), .int .i64 4611686018427387903] y fun e w' => e = .returned (.int .i64 (pl : Nat)) ∧ RefIs w' R s2 ∧ y.grownBy w' (some R) := fun y hy => by have h9 := RefRNum_calls R s1 maxN y hy (by omega); rw [hb] at h9; exact h9
          obtain ⟨s2l, e2⟩ := s2
          have hl2 : s2l.length ≤ s1.1.length := hl2
          have hpw : 2 ^ lv ≤ 4294967296 := Nat.pow_le_pow_right (n := 2) (by decide) (show lv ≤ 32 by omega)
          by_cases he2 : e2 = 0
          · subst he2
            obtain ⟨P1, hP1⟩ : ∃ P, P = 2 ^ lv := ⟨_, rfl⟩
            have cP1 : ∀ y, Calls Try.prog 102 #[.int .i64 lv] y fun e w' => e = .returned (.int .i64 (P1 : Nat)) ∧ Below y.heap.size y w' := fun y => by rw [hP1]; exact power_calls lv y (by omega)
            have HP1 := Lib.hid hP1
            have HPW := Lib.hid hpw
            clear hpw hP1
            by_cases hc1 : pl < P1
            · have hQ2l := mulLe pl B lv hlv hB2 (by rw [← HP1.out]; exact Nat.le_of_lt hc1)
              obtain ⟨D2, hD2⟩ : ∃ D, D = 2 ^ (B - lv) := ⟨_, rfl⟩
              have cP2 : ∀ y, Calls Try.prog 102 #[.int .i64 ((B : Int) - (lv : Int))] y fun e w' => e = .returned (.int .i64 (D2 : Nat)) ∧ Below y.heap.size y w' := fun y => by rw [hD2, show ((B : Int) - (lv : Int)) = ((B - lv : Nat) : Int) by omega]; exact power_calls (B - lv) y (by omega)
              have HD2 := Lib.hid hD2
              rw [← hD2] at hQ2l
              obtain ⟨Q2, hQ2⟩ : ∃ Q, Q = pl * D2 := ⟨_, rfl⟩
              have HM2 : Hid (wrap64 ((pl : Int) * (D2 : Int)) = (Q2 : Int)) := mulW pl D2 Q2 hQ2 (by rw [hQ2]; exact hQ2l)
              have HQ2e := Lib.hid hQ2
              clear hQ2 hQ2l hD2
              by_cases hc2 : Q2 < E
              · have cF2 : ∀ y, RefIs y R (s2l, 0) → Calls Try.prog 128 #[.pointer (some ⟨R, 0, none⟩), .int .i64 3] y fun e w' => e = .returned (.tuple #[]) ∧ RefIs w' R (s2l, 3) ∧ y.grownBy w' (some R) := fun y hy => RefRFail_calls R (s2l, 0) 3 y hy
                obtain ⟨dg, s3, hd⟩ : ∃ h s3, rHash (s2l, 3) = (h, s3) := ⟨_, _, rfl⟩
                have hl3 : s3.1.length ≤ (s2l, 3).1.length := by have := rHash_left (s2l, 3); rw [hd] at this; exact this
                have HH : Hid (dg.length = 32) := by have := rHash_len (s2l, 3); rw [hd] at this; exact this
                have c3 : ∀ y, RefIs y R (s2l, 3) → Calls Try.prog 129 #[.pointer (some ⟨R, 0, none⟩)] y fun e w' => e = .returned (.agg (dg.map bv).toArray) ∧ RefIs w' R s3 ∧ y.grownBy w' (some R) := fun y hy => by have h9 := RefRHash_calls R (s2l, 3) y hy (by show s2l.length ≤ _; omega); rw [hd] at h9; exact h9
                obtain ⟨s3l, e3⟩ := s3
                have hl3 : s3l.length ≤ s2l.length := hl3
                have he3 : e3 ≠ 0 := by have := rHash_err (s2l, 3) (show (3 : Int) ≠ 0 by decide); rw [hd] at this; exact this
                have hx := HX.out
                rw [HUA.out] at hx
                have hup := up_next hx rfl
                rw [upStep_eq B ⟨L, E, (sl, 0)⟩ lv pl s1 _ _ _ _ dg ha (by rw [if_neg (by omega)]) hb (by rw [if_pos ⟨rfl, .inr (by rw [← HD2.out, ← HQ2e.out]; exact hc2)⟩]; rfl) hd, if_neg he3] at hup
                have HL3 : Hid (s3l.length ≤ 1099511627776) := by show s3l.length ≤ _; omega
                have hez3 : (e3 == 0) = false := by simp [he3]
                rw [← HUA.out] at hup
                have hup := Lib.hid hup
                clear hx HX ha hd hl3 he3 hl1 hl2 hL9
                clear hb
                have hB1 := hB.out
                clear hB
                have hce := RefIs.err hR.out
                go_wp2_with fail
                clear hce
                have ltq588 : R < wr.heap.size := hR.out.lt
                refine (c1 _ hR.out).mono ?_
                rintro e wq585 ⟨rfl, hRq586, gq587⟩
                have szq589 := gq587.size
                have hCq590 := Lib.hid (hO.out.keptB gq587 (fun q hq => by have := HQ.out q hq; have := HQ2.out q hq; omega))
                have hBq591 := hB1.grown gq587 hB1.size (fun q e => by cases e; omega)
                have hHq592 := Lib.hid hRq586
                clear hRq586 hO hB1 hR gq587
                go_wp2_with fail
                have ltq596 : R < wq585.heap.size := hHq592.out.lt
                refine (c2 _ hHq592.out).mono ?_
                rintro e wq593 ⟨rfl, hRq594, gq595⟩
                have szq597 := gq595.size
                have hCq598 := Lib.hid (hCq590.out.keptB gq595 (fun q hq => by have := HQ.out q hq; have := HQ2.out q hq; omega))
                have hBq599 := hBq591.grown gq595 hBq591.size (fun q e => by cases e; omega)
                have hHq600 := Lib.hid hRq594
                clear hRq594 hCq590 hBq591 hHq592 gq595
                have hce := RefIs.err hHq600.out
                go_wp2_with fail
                clear hce
                have ltq603 : R < wq593.heap.size := hHq600.out.lt
                refine (cP1 _).mono ?_
                rintro e wq601 ⟨rfl, bq602⟩
                have hCq604 := Lib.hid (hHq600.out.below bq602)
                have hCq605 := Lib.hid (hCq598.out.below bq602)
                have hBq606 := hBq599.trans (bq602.mono hBq599.size)
                clear hHq600 hCq598 hBq599
                clear bq602
                go_wp2_with fail
                have ltq609 : R < wq601.heap.size := hCq604.out.lt
                refine (cP2 _).mono ?_
                rintro e wq607 ⟨rfl, bq608⟩
                have hCq610 := Lib.hid (hCq604.out.below bq608)
                have hCq611 := Lib.hid (hCq605.out.below bq608)
                have hBq612 := hBq606.trans (bq608.mono hBq606.size)
                clear hCq604 hCq605 hBq606
                clear bq608
                have hm2 := HM2.out
                go_wp2_with fail
                clear hm2
                have ltq616 : R < wq607.heap.size := hCq610.out.lt
                refine (cF2 _ hCq610.out).mono ?_
                rintro e wq613 ⟨rfl, hRq614, gq615⟩
                have szq617 := gq615.size
                have hCq618 := Lib.hid (hCq611.out.keptB gq615 (fun q hq => by have := HQ.out q hq; have := HQ2.out q hq; omega))
                have hBq619 := hBq612.grown gq615 hBq612.size (fun q e => by cases e; omega)
                have hHq620 := Lib.hid hRq614
                clear hRq614 hCq611 hBq612 hCq610 gq615
                go_wp2_with fail
                have ltq624 : R < wq613.heap.size := hHq620.out.lt
                refine (c3 _ hHq620.out).mono ?_
                rintro e wq621 ⟨rfl, hRq622, gq623⟩
                have szq625 := gq623.size
                have hCq626 := Lib.hid (hCq618.out.keptB gq623 (fun q hq => by have := HQ.out q hq; have := HQ2.out q hq; omega))
                have hBq627 := hBq619.grown gq623 hBq619.size (fun q e => by cases e; omega)
                have hHq628 := Lib.hid hRq622
                clear hRq622 hCq618 hBq619 hHq620 gq623
                go_wp2_with (first | ((with_reducible show wpList _ _ _ (⟨some 13, _, _, _, _, _⟩ :: _) _ _); refine wpList_allocZ rfl 22 rfl _ Try.zeroA32 ?_; intro wq629 hsq630 baq631 hNq632) | ((with_reducible show wpList _ _ _ (⟨none, Op.store _ (.tmp 13) _, _, _, _, _⟩ :: _) _ _); refine wpList_storeBlk rfl 22 (.tmp 13) (.tmp 64) rfl (wq621.heap.size) ((dg.map bv).toArray) (by rfl) (by rfl) _ _ hNq632 (by rw [bv_size, HH.out]; exact Try.sizeA32) (by rw [bv_size, HH.out, Z32_size]) (bv_all _) ?_; intro wq633 hKq634 gq635; have bbq636 := below_new baq631 gq635 (Nat.le_refl _) baq631.size; have ltq637 : R < wq621.heap.size := hHq628.out.lt; have hCq638 := Lib.hid (hHq628.out.below bbq636); have hCq639 := Lib.hid (hCq626.out.below bbq636); have hBq640 := hBq627.trans (bbq636.mono hBq627.size); clear hHq628 hCq626 hBq627; clear bbq636 baq631 hNq632 gq635 hsq630; have hce := RefIs.err hCq638.out))
                clear hce
                go_roundw
                case rel => exact ⟨k + 1, ⟨L, E, (s3l, e3)⟩, v, by omega, rfl, rfl, by go_num, hup, hCq638, hCq639, Lib.hid hBq640, HL3⟩
                case measure => simp [intOf]; omega
              · obtain ⟨dg, s3, hd⟩ : ∃ h s3, rHash (s2l, 0) = (h, s3) := ⟨_, _, rfl⟩
                have hl3 : s3.1.length ≤ (s2l, 0).1.length := by have := rHash_left (s2l, 0); rw [hd] at this; exact this
                have HH : Hid (dg.length = 32) := by have := rHash_len (s2l, 0); rw [hd] at this; exact this
                have c3 : ∀ y, RefIs y R (s2l, 0) → Calls Try.prog 129 #[.pointer (some ⟨R, 0, none⟩)] y fun e w' => e = .returned (.agg (dg.map bv).toArray) ∧ RefIs w' R s3 ∧ y.grownBy w' (some R) := fun y hy => by have h9 := RefRHash_calls R (s2l, 0) y hy (by show s2l.length ≤ _; omega); rw [hd] at h9; exact h9
                obtain ⟨s3l, e3⟩ := s3
                have hl3 : s3l.length ≤ s2l.length := hl3
                by_cases he3 : e3 = 0
                · subst he3
                  have hx := HX.out
                  rw [HUA.out] at hx
                  have hup := up_next hx rfl
                  rw [upStep_eq B ⟨L, E, (sl, 0)⟩ lv pl s1 _ _ _ _ dg ha (by rw [if_neg (by omega)]) hb (by rw [if_neg (fun hc => by rcases hc.2 with h9 | h9; (rw [← HP1.out] at h9; omega); (rw [← HD2.out, ← HQ2e.out] at h9; exact hc2 h9))]) hd, if_pos rfl] at hup
                  have HL3 : Hid (s3l.length ≤ 1099511627776) := by show s3l.length ≤ _; omega
                  rw [← HUA.out] at hup
                  have hup := Lib.hid hup
                  clear hx HX ha hd hl3 hl1 hl2 hL9
                  obtain ⟨Q3, hQ3⟩ : ∃ Q, Q = (pl + 1) * 2 ^ (B - lv) := ⟨_, rfl⟩
                  have hQ3l := mulLe (pl + 1) B lv hlv hB2 (by rw [← HP1.out]; exact hc1)
                  have HM3 : Hid (wrap64 (((pl : Int) + 1) * (D2 : Int)) = (Q3 : Int)) := mulW (pl + 1) D2 Q3 (by rw [hQ3, HD2.out]) (by rw [hQ3]; exact hQ3l)
                  have HW9 : Hid (wrap64 ((pl : Int) + 1) = (pl : Int) + 1) := by show _ = _; have h8 := HPW.out; rw [← HP1.out] at h8; unfold wrap64; omega
                  rw [← hQ3] at hup
                  clear hb hQ3 hQ3l
                  have hB1 := hB.out
                  clear hB
                  have hce := RefIs.err hR.out
                  go_wp2_with fail
                  clear hce
                  have ltq644 : R < wr.heap.size := hR.out.lt
                  refine (c1 _ hR.out).mono ?_
                  rintro e wq641 ⟨rfl, hRq642, gq643⟩
                  have szq645 := gq643.size
                  have hCq646 := Lib.hid (hO.out.keptB gq643 (fun q hq => by have := HQ.out q hq; have := HQ2.out q hq; omega))
                  have hBq647 := hB1.grown gq643 hB1.size (fun q e => by cases e; omega)
                  have hHq648 := Lib.hid hRq642
                  clear hRq642 hO hB1 hR gq643
                  go_wp2_with fail
                  have ltq652 : R < wq641.heap.size := hHq648.out.lt
                  refine (c2 _ hHq648.out).mono ?_
                  rintro e wq649 ⟨rfl, hRq650, gq651⟩
                  have szq653 := gq651.size
                  have hCq654 := Lib.hid (hCq646.out.keptB gq651 (fun q hq => by have := HQ.out q hq; have := HQ2.out q hq; omega))
                  have hBq655 := hBq647.grown gq651 hBq647.size (fun q e => by cases e; omega)
                  have hHq656 := Lib.hid hRq650
                  clear hRq650 hCq646 hBq647 hHq648 gq651
                  have hce := RefIs.err hHq656.out
                  go_wp2_with fail
                  clear hce
                  have ltq659 : R < wq649.heap.size := hHq656.out.lt
                  refine (cP1 _).mono ?_
                  rintro e wq657 ⟨rfl, bq658⟩
                  have hCq660 := Lib.hid (hHq656.out.below bq658)
                  have hCq661 := Lib.hid (hCq654.out.below bq658)
                  have hBq662 := hBq655.trans (bq658.mono hBq655.size)
                  clear hHq656 hCq654 hBq655
                  clear bq658
                  go_wp2_with fail
                  have ltq665 : R < wq657.heap.size := hCq660.out.lt
                  refine (cP2 _).mono ?_
                  rintro e wq663 ⟨rfl, bq664⟩
                  have hCq666 := Lib.hid (hCq660.out.below bq664)
                  have hCq667 := Lib.hid (hCq661.out.below bq664)
                  have hBq668 := hBq662.trans (bq664.mono hBq662.size)
                  clear hCq660 hCq661 hBq662
                  clear bq664
                  have hm2 := HM2.out
                  go_wp2_with fail
                  clear hm2
                  have ltq672 : R < wq663.heap.size := hCq666.out.lt
                  refine (c3 _ hCq666.out).mono ?_
                  rintro e wq669 ⟨rfl, hRq670, gq671⟩
                  have szq673 := gq671.size
                  have hCq674 := Lib.hid (hCq667.out.keptB gq671 (fun q hq => by have := HQ.out q hq; have := HQ2.out q hq; omega))
                  have hBq675 := hBq668.grown gq671 hBq668.size (fun q e => by cases e; omega)
                  have hHq676 := Lib.hid hRq670
                  clear hRq670 hCq667 hBq668 hCq666 gq671
                  go_wp2_with (first | ((with_reducible show wpList _ _ _ (⟨some 13, _, _, _, _, _⟩ :: _) _ _); refine wpList_allocZ rfl 22 rfl _ Try.zeroA32 ?_; intro wq677 hsq678 baq679 hNq680) | ((with_reducible show wpList _ _ _ (⟨none, Op.store _ (.tmp 13) _, _, _, _, _⟩ :: _) _ _); refine wpList_storeBlk rfl 22 (.tmp 13) (.tmp 64) rfl (wq669.heap.size) ((dg.map bv).toArray) (by rfl) (by rfl) _ _ hNq680 (by rw [bv_size, HH.out]; exact Try.sizeA32) (by rw [bv_size, HH.out, Z32_size]) (bv_all _) ?_; intro wq681 hKq682 gq683; have bbq684 := below_new baq679 gq683 (Nat.le_refl _) baq679.size; have ltq685 : R < wq669.heap.size := hHq676.out.lt; have hCq686 := Lib.hid (hHq676.out.below bbq684); have hCq687 := Lib.hid (hCq674.out.below bbq684); have hBq688 := hBq675.trans (bbq684.mono hBq675.size); clear hHq676 hCq674 hBq675; clear bbq684 baq679 hNq680 gq683 hsq678; have hce := RefIs.err hCq686.out))
                  clear hce
                  have ltq691 : R < wq681.heap.size := hCq686.out.lt
                  have ltq692 : wq669.heap.size < wq681.heap.size := hKq682.lt
                  refine (cP2 _).mono ?_
                  rintro e wq689 ⟨rfl, bq690⟩
                  have hCq693 := Lib.hid (hCq686.out.below bq690)
                  have hCq694 := Lib.hid (hCq687.out.below bq690)
                  have hCq695 := hKq682.below bq690 hKq682.lt
                  have hBq696 := hBq688.trans (bq690.mono hBq688.size)
                  clear hCq686 hCq687 hKq682 hBq688
                  clear bq690
                  have hm3 := HM3.out
                  have ltq697 : R < wq689.heap.size := hCq693.out.lt
                  have ltq698 : wq669.heap.size < wq689.heap.size := hCq695.lt
                  go_wp2_with (first | ((with_reducible show wpList _ _ _ (⟨some 80, _, _, _, _, _⟩ :: _) _ _); refine wpList_load_mid rfl 22 (.tmp 13) rfl (wq669.heap.size) 0 (by rfl) (dg.map bv) _ (blk_rangeP hCq695) Try.underlying22 rfl (by rw [List.length_map, HH.out]; exact Try.sizeA32) ?_) | ((with_reducible show wpList _ _ _ (⟨some 81, _, _, _, _, _⟩ :: _) _ _); refine wpList_buildCells rfl 94 #[(0, .tmp 78), (1, .tmp 79), (2, .tmp 80)] rfl ((Sd.cells ⟨lv, pl, dg⟩).toArray) (Try.builtSd6 lv pl dg HH.out) ?_) | ((with_reducible show wpList _ _ _ (⟨some 82, _, _, _, _, _⟩ :: _) _ _); refine wpList_bsOne rfl 84 94 (.tmp 81) rfl (Sd.cells ⟨lv, pl, dg⟩).toArray (by rfl) Try.underlying84 _ 34 Try.zsSd6 (by rw [List.size_toArray]; exact Sd.cells_len _ HH.out) (by decide) (by decide) ?_) | ((with_reducible show wpList _ _ _ (⟨some 83, _, _, _, _, _⟩ :: _) _ _); refine wpList_append_docs rfl (.tmp 77) (.tmp 82) rfl base v _ _ L [Sd.mk lv pl dg] (by rfl) (by rfl) (World.ownsRow.alloc hCq694.out _) (SeedsAt.one _ (Sd.mk lv pl dg) _ HH.out) HL32.out rfl hLl (by simp) (by have h7 := hCq693.out.lt; have h8 := HBA.out; simp; omega) ?_; intro v2 w9 ho9 g9))
                  clear hm3
                  have hbx := below_alloc1 wq689 (.cells (Sd.cells ⟨lv, pl, dg⟩).toArray 94)
                  have hR9 : Hid (RefIs w9 R (s3l, 0)) := RefIs.grownO (hCq693.out.below hbx) g9 (fun q e => by have := HQ.out q e; omega)
                  have hB9 : Hid (Below w.heap.size w w9) := (hBq696.alloc hBq696.size (.cells (Sd.cells ⟨lv, pl, dg⟩).toArray 94)).grown g9 (by have := hBq696.size; simp; omega) (fun q e => by have := HQ.out q e; omega)
                  have hO9 : Hid (DocOwn w9 base v2 (L ++ [Sd.mk lv pl dg])) := by
                    show World.ownsRow _ _ _ _ _ _ _
                    rw [List.length_append]
                    exact ho9
                  obtain ⟨ao9, c9, rfl⟩ := own_slice ho9
                  clear ho9 g9 hbx hCq693 hCq694 hBq696 hCq695
                  go_roundw
                  case rel => exact ⟨k + 1, ⟨L ++ [Sd.mk lv pl dg], Q3, (s3l, 0)⟩, _, by omega, rfl, by rw [HW9.out, HM3.out], by go_num, hup, hR9, hO9, hB9, HL3⟩
                  case measure => simp [intOf]; omega
                · have hx := HX.out
                  rw [HUA.out] at hx
                  have hup := up_next hx rfl
                  rw [upStep_eq B ⟨L, E, (sl, 0)⟩ lv pl s1 _ _ _ _ dg ha (by rw [if_neg (by omega)]) hb (by rw [if_neg (fun hc => by rcases hc.2 with h9 | h9; (rw [← HP1.out] at h9; omega); (rw [← HD2.out, ← HQ2e.out] at h9; exact hc2 h9))]) hd, if_neg he3] at hup
                  have HL3 : Hid (s3l.length ≤ 1099511627776) := by show s3l.length ≤ _; omega
                  have hez3 : (e3 == 0) = false := by simp [he3]
                  rw [← HUA.out] at hup
                  have hup := Lib.hid hup
                  clear hx HX ha hd hl3 he3 hl1 hl2 hL9
                  clear hb
                  have hB1 := hB.out
                  clear hB
                  have hce := RefIs.err hR.out
                  go_wp2_with fail
                  clear hce
                  have ltq702 : R < wr.heap.size := hR.out.lt
                  refine (c1 _ hR.out).mono ?_
                  rintro e wq699 ⟨rfl, hRq700, gq701⟩
                  have szq703 := gq701.size
                  have hCq704 := Lib.hid (hO.out.keptB gq701 (fun q hq => by have := HQ.out q hq; have := HQ2.out q hq; omega))
                  have hBq705 := hB1.grown gq701 hB1.size (fun q e => by cases e; omega)
                  have hHq706 := Lib.hid hRq700
                  clear hRq700 hO hB1 hR gq701
                  go_wp2_with fail
                  have ltq710 : R < wq699.heap.size := hHq706.out.lt
                  refine (c2 _ hHq706.out).mono ?_
                  rintro e wq707 ⟨rfl, hRq708, gq709⟩
                  have szq711 := gq709.size
                  have hCq712 := Lib.hid (hCq704.out.keptB gq709 (fun q hq => by have := HQ.out q hq; have := HQ2.out q hq; omega))
                  have hBq713 := hBq705.grown gq709 hBq705.size (fun q e => by cases e; omega)
                  have hHq714 := Lib.hid hRq708
                  clear hRq708 hCq704 hBq705 hHq706 gq709
                  have hce := RefIs.err hHq714.out
                  go_wp2_with fail
                  clear hce
                  have ltq717 : R < wq707.heap.size := hHq714.out.lt
                  refine (cP1 _).mono ?_
                  rintro e wq715 ⟨rfl, bq716⟩
                  have hCq718 := Lib.hid (hHq714.out.below bq716)
                  have hCq719 := Lib.hid (hCq712.out.below bq716)
                  have hBq720 := hBq713.trans (bq716.mono hBq713.size)
                  clear hHq714 hCq712 hBq713
                  clear bq716
                  go_wp2_with fail
                  have ltq723 : R < wq715.heap.size := hCq718.out.lt
                  refine (cP2 _).mono ?_
                  rintro e wq721 ⟨rfl, bq722⟩
                  have hCq724 := Lib.hid (hCq718.out.below bq722)
                  have hCq725 := Lib.hid (hCq719.out.below bq722)
                  have hBq726 := hBq720.trans (bq722.mono hBq720.size)
                  clear hCq718 hCq719 hBq720
                  clear bq722
                  have hm2 := HM2.out
                  go_wp2_with fail
                  clear hm2
                  have ltq730 : R < wq721.heap.size := hCq724.out.lt
                  refine (c3 _ hCq724.out).mono ?_
                  rintro e wq727 ⟨rfl, hRq728, gq729⟩
                  have szq731 := gq729.size
                  have hCq732 := Lib.hid (hCq725.out.keptB gq729 (fun q hq => by have := HQ.out q hq; have := HQ2.out q hq; omega))
                  have hBq733 := hBq726.grown gq729 hBq726.size (fun q e => by cases e; omega)
                  have hHq734 := Lib.hid hRq728
                  clear hRq728 hCq725 hBq726 hCq724 gq729
                  go_wp2_with (first | ((with_reducible show wpList _ _ _ (⟨some 13, _, _, _, _, _⟩ :: _) _ _); refine wpList_allocZ rfl 22 rfl _ Try.zeroA32 ?_; intro wq735 hsq736 baq737 hNq738) | ((with_reducible show wpList _ _ _ (⟨none, Op.store _ (.tmp 13) _, _, _, _, _⟩ :: _) _ _); refine wpList_storeBlk rfl 22 (.tmp 13) (.tmp 64) rfl (wq727.heap.size) ((dg.map bv).toArray) (by rfl) (by rfl) _ _ hNq738 (by rw [bv_size, HH.out]; exact Try.sizeA32) (by rw [bv_size, HH.out, Z32_size]) (bv_all _) ?_; intro wq739 hKq740 gq741; have bbq742 := below_new baq737 gq741 (Nat.le_refl _) baq737.size; have ltq743 : R < wq727.heap.size := hHq734.out.lt; have hCq744 := Lib.hid (hHq734.out.below bbq742); have hCq745 := Lib.hid (hCq732.out.below bbq742); have hBq746 := hBq733.trans (bbq742.mono hBq733.size); clear hHq734 hCq732 hBq733; clear bbq742 baq737 hNq738 gq741 hsq736; have hce := RefIs.err hCq744.out))
                  clear hce
                  go_roundw
                  case rel => exact ⟨k + 1, ⟨L, E, (s3l, e3)⟩, v, by omega, rfl, rfl, by go_num, hup, hCq744, hCq745, Lib.hid hBq746, HL3⟩
                  case measure => simp [intOf]; omega
            · have cF2 : ∀ y, RefIs y R (s2l, 0) → Calls Try.prog 128 #[.pointer (some ⟨R, 0, none⟩), .int .i64 3] y fun e w' => e = .returned (.tuple #[]) ∧ RefIs w' R (s2l, 3) ∧ y.grownBy w' (some R) := fun y hy => RefRFail_calls R (s2l, 0) 3 y hy
              obtain ⟨dg, s3, hd⟩ : ∃ h s3, rHash (s2l, 3) = (h, s3) := ⟨_, _, rfl⟩
              have hl3 : s3.1.length ≤ (s2l, 3).1.length := by have := rHash_left (s2l, 3); rw [hd] at this; exact this
              have HH : Hid (dg.length = 32) := by have := rHash_len (s2l, 3); rw [hd] at this; exact this
              have c3 : ∀ y, RefIs y R (s2l, 3) → Calls Try.prog 129 #[.pointer (some ⟨R, 0, none⟩)] y fun e w' => e = .returned (.agg (dg.map bv).toArray) ∧ RefIs w' R s3 ∧ y.grownBy w' (some R) := fun y hy => by have h9 := RefRHash_calls R (s2l, 3) y hy (by show s2l.length ≤ _; omega); rw [hd] at h9; exact h9
              obtain ⟨s3l, e3⟩ := s3
              have hl3 : s3l.length ≤ s2l.length := hl3
              have he3 : e3 ≠ 0 := by have := rHash_err (s2l, 3) (show (3 : Int) ≠ 0 by decide); rw [hd] at this; exact this
              have hx := HX.out
              rw [HUA.out] at hx
              have hup := up_next hx rfl
              rw [upStep_eq B ⟨L, E, (sl, 0)⟩ lv pl s1 _ _ _ _ dg ha (by rw [if_neg (by omega)]) hb (by rw [if_pos ⟨rfl, .inl (by rw [← HP1.out]; omega)⟩]; rfl) hd, if_neg he3] at hup
              have HL3 : Hid (s3l.length ≤ 1099511627776) := by show s3l.length ≤ _; omega
              have hez3 : (e3 == 0) = false := by simp [he3]
              rw [← HUA.out] at hup
              have hup := Lib.hid hup
              clear hx HX ha hd hl3 he3 hl1 hl2 hL9
              clear hb
              have hB1 := hB.out
              clear hB
              have hce := RefIs.err hR.out
              go_wp2_with fail
              clear hce
              have ltq538 : R < wr.heap.size := hR.out.lt
              refine (c1 _ hR.out).mono ?_
              rintro e wq535 ⟨rfl, hRq536, gq537⟩
              have szq539 := gq537.size
              have hCq540 := Lib.hid (hO.out.keptB gq537 (fun q hq => by have := HQ.out q hq; have := HQ2.out q hq; omega))
              have hBq541 := hB1.grown gq537 hB1.size (fun q e => by cases e; omega)
              have hHq542 := Lib.hid hRq536
              clear hRq536 hO hB1 hR gq537
              go_wp2_with fail
              have ltq546 : R < wq535.heap.size := hHq542.out.lt
              refine (c2 _ hHq542.out).mono ?_
              rintro e wq543 ⟨rfl, hRq544, gq545⟩
              have szq547 := gq545.size
              have hCq548 := Lib.hid (hCq540.out.keptB gq545 (fun q hq => by have := HQ.out q hq; have := HQ2.out q hq; omega))
              have hBq549 := hBq541.grown gq545 hBq541.size (fun q e => by cases e; omega)
              have hHq550 := Lib.hid hRq544
              clear hRq544 hCq540 hBq541 hHq542 gq545
              have hce := RefIs.err hHq550.out
              go_wp2_with fail
              clear hce
              have ltq553 : R < wq543.heap.size := hHq550.out.lt
              refine (cP1 _).mono ?_
              rintro e wq551 ⟨rfl, bq552⟩
              have hCq554 := Lib.hid (hHq550.out.below bq552)
              have hCq555 := Lib.hid (hCq548.out.below bq552)
              have hBq556 := hBq549.trans (bq552.mono hBq549.size)
              clear hHq550 hCq548 hBq549
              clear bq552
              go_wp2_with fail
              skip
              have ltq560 : R < wq551.heap.size := hCq554.out.lt
              refine (cF2 _ hCq554.out).mono ?_
              rintro e wq557 ⟨rfl, hRq558, gq559⟩
              have szq561 := gq559.size
              have hCq562 := Lib.hid (hCq555.out.keptB gq559 (fun q hq => by have := HQ.out q hq; have := HQ2.out q hq; omega))
              have hBq563 := hBq556.grown gq559 hBq556.size (fun q e => by cases e; omega)
              have hHq564 := Lib.hid hRq558
              clear hRq558 hCq555 hBq556 hCq554 gq559
              go_wp2_with fail
              have ltq568 : R < wq557.heap.size := hHq564.out.lt
              refine (c3 _ hHq564.out).mono ?_
              rintro e wq565 ⟨rfl, hRq566, gq567⟩
              have szq569 := gq567.size
              have hCq570 := Lib.hid (hCq562.out.keptB gq567 (fun q hq => by have := HQ.out q hq; have := HQ2.out q hq; omega))
              have hBq571 := hBq563.grown gq567 hBq563.size (fun q e => by cases e; omega)
              have hHq572 := Lib.hid hRq566
              clear hRq566 hCq562 hBq563 hHq564 gq567
              go_wp2_with (first | ((with_reducible show wpList _ _ _ (⟨some 13, _, _, _, _, _⟩ :: _) _ _); refine wpList_allocZ rfl 22 rfl _ Try.zeroA32 ?_; intro wq573 hsq574 baq575 hNq576) | ((with_reducible show wpList _ _ _ (⟨none, Op.store _ (.tmp 13) _, _, _, _, _⟩ :: _) _ _); refine wpList_storeBlk rfl 22 (.tmp 13) (.tmp 64) rfl (wq565.heap.size) ((dg.map bv).toArray) (by rfl) (by rfl) _ _ hNq576 (by rw [bv_size, HH.out]; exact Try.sizeA32) (by rw [bv_size, HH.out, Z32_size]) (bv_all _) ?_; intro wq577 hKq578 gq579; have bbq580 := below_new baq575 gq579 (Nat.le_refl _) baq575.size; have ltq581 : R < wq565.heap.size := hHq572.out.lt; have hCq582 := Lib.hid (hHq572.out.below bbq580); have hCq583 := Lib.hid (hCq570.out.below bbq580); have hBq584 := hBq571.trans (bbq580.mono hBq571.size); clear hHq572 hCq570 hBq571; clear bbq580 baq575 hNq576 gq579 hsq574; have hce := RefIs.err hCq582.out))
              clear hce
              go_roundw
              case rel => exact ⟨k + 1, ⟨L, E, (s3l, e3)⟩, v, by omega, rfl, rfl, by go_num, hup, hCq582, hCq583, Lib.hid hBq584, HL3⟩
              case measure => simp [intOf]; omega
          · have hez : (e2 == 0) = false := by simp [he2]
            obtain ⟨dg, s3, hd⟩ : ∃ h s3, rHash (s2l, e2) = (h, s3) := ⟨_, _, rfl⟩
            have hl3 : s3.1.length ≤ (s2l, e2).1.length := by have := rHash_left (s2l, e2); rw [hd] at this; exact this
            have HH : Hid (dg.length = 32) := by have := rHash_len (s2l, e2); rw [hd] at this; exact this
            have c3 : ∀ y, RefIs y R (s2l, e2) → Calls Try.prog 129 #[.pointer (some ⟨R, 0, none⟩)] y fun e w' => e = .returned (.agg (dg.map bv).toArray) ∧ RefIs w' R s3 ∧ y.grownBy w' (some R) := fun y hy => by have h9 := RefRHash_calls R (s2l, e2) y hy (by show s2l.length ≤ _; omega); rw [hd] at h9; exact h9
            obtain ⟨s3l, e3⟩ := s3
            have hl3 : s3l.length ≤ s2l.length := hl3
            have he3 : e3 ≠ 0 := by have := rHash_err (s2l, e2) he2; rw [hd] at this; exact this
            have hx := HX.out
            rw [HUA.out] at hx
            have hup := up_next hx rfl
            rw [upStep_eq B ⟨L, E, (sl, 0)⟩ lv pl s1 _ _ _ _ dg ha (by rw [if_neg (by omega)]) hb (by rw [if_neg (fun hc => he2 hc.1)]) hd, if_neg he3] at hup
            have HL3 : Hid (s3l.length ≤ 1099511627776) := by show s3l.length ≤ _; omega
            have hez3 : (e3 == 0) = false := by simp [he3]
            rw [← HUA.out] at hup
            have hup := Lib.hid hup
            clear hx HX ha hd hl3 he3 hl1 hl2 hL9
            clear hb he2 hpw
            have hB1 := hB.out
            clear hB
            have hce := RefIs.err hR.out
            go_wp2_with fail
            clear hce
            have ltq502 : R < wr.heap.size := hR.out.lt
            refine (c1 _ hR.out).mono ?_
            rintro e wq499 ⟨rfl, hRq500, gq501⟩
            have szq503 := gq501.size
            have hCq504 := Lib.hid (hO.out.keptB gq501 (fun q hq => by have := HQ.out q hq; have := HQ2.out q hq; omega))
            have hBq505 := hB1.grown gq501 hB1.size (fun q e => by cases e; omega)
            have hHq506 := Lib.hid hRq500
            clear hRq500 hO hB1 hR gq501
            go_wp2_with fail
            have ltq510 : R < wq499.heap.size := hHq506.out.lt
            refine (c2 _ hHq506.out).mono ?_
            rintro e wq507 ⟨rfl, hRq508, gq509⟩
            have szq511 := gq509.size
            have hCq512 := Lib.hid (hCq504.out.keptB gq509 (fun q hq => by have := HQ.out q hq; have := HQ2.out q hq; omega))
            have hBq513 := hBq505.grown gq509 hBq505.size (fun q e => by cases e; omega)
            have hHq514 := Lib.hid hRq508
            clear hRq508 hCq504 hBq505 hHq506 gq509
            have hce := RefIs.err hHq514.out
            go_wp2_with fail
            clear hce
            have ltq518 : R < wq507.heap.size := hHq514.out.lt
            refine (c3 _ hHq514.out).mono ?_
            rintro e wq515 ⟨rfl, hRq516, gq517⟩
            have szq519 := gq517.size
            have hCq520 := Lib.hid (hCq512.out.keptB gq517 (fun q hq => by have := HQ.out q hq; have := HQ2.out q hq; omega))
            have hBq521 := hBq513.grown gq517 hBq513.size (fun q e => by cases e; omega)
            have hHq522 := Lib.hid hRq516
            clear hRq516 hCq512 hBq513 hHq514 gq517
            go_wp2_with (first | ((with_reducible show wpList _ _ _ (⟨some 13, _, _, _, _, _⟩ :: _) _ _); refine wpList_allocZ rfl 22 rfl _ Try.zeroA32 ?_; intro wq523 hsq524 baq525 hNq526) | ((with_reducible show wpList _ _ _ (⟨none, Op.store _ (.tmp 13) _, _, _, _, _⟩ :: _) _ _); refine wpList_storeBlk rfl 22 (.tmp 13) (.tmp 64) rfl (wq515.heap.size) ((dg.map bv).toArray) (by rfl) (by rfl) _ _ hNq526 (by rw [bv_size, HH.out]; exact Try.sizeA32) (by rw [bv_size, HH.out, Z32_size]) (bv_all _) ?_; intro wq527 hKq528 gq529; have bbq530 := below_new baq525 gq529 (Nat.le_refl _) baq525.size; have ltq531 : R < wq515.heap.size := hHq522.out.lt; have hCq532 := Lib.hid (hHq522.out.below bbq530); have hCq533 := Lib.hid (hCq520.out.below bbq530); have hBq534 := hBq521.trans (bbq530.mono hBq521.size); clear hHq522 hCq520 hBq521; clear bbq530 baq525 hNq526 gq529 hsq524; have hce := RefIs.err hCq532.out))
            clear hce
            go_roundw
            case rel => exact ⟨k + 1, ⟨L, E, (s3l, e3)⟩, v, by omega, rfl, rfl, by go_num, hup, hCq532, hCq533, Lib.hid hBq534, HL3⟩
            case measure => simp [intOf]; omega
        · have hlv2 : B < lv := by omega
          have cF1 : ∀ y, RefIs y R s1 → Calls Try.prog 128 #[.pointer (some ⟨R, 0, none⟩), .int .i64 3] y fun e w' => e = .returned (.tuple #[]) ∧ RefIs w' R (rFail 3 s1) ∧ y.grownBy w' (some R) := fun y hy => RefRFail_calls R s1 3 y hy
          obtain ⟨pl, s2, hb, hl2, _⟩ := rNum_nat (rFail 3 s1)
          have c2 : ∀ y, RefIs y R (rFail 3 s1) → Calls Try.prog 127 #[.pointer (some ⟨R, 0, none⟩), .int .i64 4611686018427387903] y fun e w' => e = .returned (.int .i64 (pl : Nat)) ∧ RefIs w' R s2 ∧ y.grownBy w' (some R) := fun y hy => by have h9 := RefRNum_calls R (rFail 3 s1) maxN y hy (by rw [rFail_left]; omega); rw [hb] at h9; exact h9
          obtain ⟨s2l, e2⟩ := s2
          rw [rFail_left] at hl2
          have hl2 : s2l.length ≤ s1.1.length := hl2
          have he2 : e2 ≠ 0 := by have := rNum_err maxN _ (rFail_zero 3 (by decide) s1); rw [hb] at this; exact this
          have hez : (e2 == 0) = false := by simp [he2]
          obtain ⟨dg, s3, hd⟩ : ∃ h s3, rHash (s2l, e2) = (h, s3) := ⟨_, _, rfl⟩
          have hl3 : s3.1.length ≤ (s2l, e2).1.length := by have := rHash_left (s2l, e2); rw [hd] at this; exact this
          have HH : Hid (dg.length = 32) := by have := rHash_len (s2l, e2); rw [hd] at this; exact this
          have c3 : ∀ y, RefIs y R (s2l, e2) → Calls Try.prog 129 #[.pointer (some ⟨R, 0, none⟩)] y fun e w' => e = .returned (.agg (dg.map bv).toArray) ∧ RefIs w' R s3 ∧ y.grownBy w' (some R) := fun y hy => by have h9 := RefRHash_calls R (s2l, e2) y hy (by show s2l.length ≤ _; omega); rw [hd] at h9; exact h9
          obtain ⟨s3l, e3⟩ := s3
          have hl3 : s3l.length ≤ s2l.length := hl3
          have he3 : e3 ≠ 0 := by have := rHash_err (s2l, e2) he2; rw [hd] at this; exact this
          have hx := HX.out
          rw [HUA.out] at hx
          have hup := up_next hx rfl
          rw [upStep_eq B ⟨L, E, (sl, 0)⟩ lv pl s1 _ _ _ _ dg ha (by rw [if_pos hlv2]) hb (by rw [if_neg (fun hc => he2 hc.1)]) hd, if_neg he3] at hup
          have HL3 : Hid (s3l.length ≤ 1099511627776) := by show s3l.length ≤ _; omega
          have hez3 : (e3 == 0) = false := by simp [he3]
          rw [← HUA.out] at hup
          have hup := Lib.hid hup
          clear hx HX ha hd hl3 he3 hl1 hl2 hL9
          clear hb hlv he2
          have hB1 := hB.out
          clear hB
          have hce := RefIs.err hR.out
          go_wp2_with fail
          clear hce
          have ltq458 : R < wr.heap.size := hR.out.lt
          refine (c1 _ hR.out).mono ?_
          rintro e wq455 ⟨rfl, hRq456, gq457⟩
          have szq459 := gq457.size
          have hCq460 := Lib.hid (hO.out.keptB gq457 (fun q hq => by have := HQ.out q hq; have := HQ2.out q hq; omega))
          have hBq461 := hB1.grown gq457 hB1.size (fun q e => by cases e; omega)
          have hHq462 := Lib.hid hRq456
          clear hRq456 hO hB1 hR gq457
          go_wp2_with fail
          have ltq466 : R < wq455.heap.size := hHq462.out.lt
          refine (cF1 _ hHq462.out).mono ?_
          rintro e wq463 ⟨rfl, hRq464, gq465⟩
          have szq467 := gq465.size
          have hCq468 := Lib.hid (hCq460.out.keptB gq465 (fun q hq => by have := HQ.out q hq; have := HQ2.out q hq; omega))
          have hBq469 := hBq461.grown gq465 hBq461.size (fun q e => by cases e; omega)
          have hHq470 := Lib.hid hRq464
          clear hRq464 hCq460 hBq461 hHq462 gq465
          go_wp2_with fail
          have ltq474 : R < wq463.heap.size := hHq470.out.lt
          refine (c2 _ hHq470.out).mono ?_
          rintro e wq471 ⟨rfl, hRq472, gq473⟩
          have szq475 := gq473.size
          have hCq476 := Lib.hid (hCq468.out.keptB gq473 (fun q hq => by have := HQ.out q hq; have := HQ2.out q hq; omega))
          have hBq477 := hBq469.grown gq473 hBq469.size (fun q e => by cases e; omega)
          have hHq478 := Lib.hid hRq472
          clear hRq472 hCq468 hBq469 hHq470 gq473
          have hce := RefIs.err hHq478.out
          go_wp2_with fail
          clear hce
          have ltq482 : R < wq471.heap.size := hHq478.out.lt
          refine (c3 _ hHq478.out).mono ?_
          rintro e wq479 ⟨rfl, hRq480, gq481⟩
          have szq483 := gq481.size
          have hCq484 := Lib.hid (hCq476.out.keptB gq481 (fun q hq => by have := HQ.out q hq; have := HQ2.out q hq; omega))
          have hBq485 := hBq477.grown gq481 hBq477.size (fun q e => by cases e; omega)
          have hHq486 := Lib.hid hRq480
          clear hRq480 hCq476 hBq477 hHq478 gq481
          go_wp2_with (first | ((with_reducible show wpList _ _ _ (⟨some 13, _, _, _, _, _⟩ :: _) _ _); refine wpList_allocZ rfl 22 rfl _ Try.zeroA32 ?_; intro wq487 hsq488 baq489 hNq490) | ((with_reducible show wpList _ _ _ (⟨none, Op.store _ (.tmp 13) _, _, _, _, _⟩ :: _) _ _); refine wpList_storeBlk rfl 22 (.tmp 13) (.tmp 64) rfl (wq479.heap.size) ((dg.map bv).toArray) (by rfl) (by rfl) _ _ hNq490 (by rw [bv_size, HH.out]; exact Try.sizeA32) (by rw [bv_size, HH.out, Z32_size]) (bv_all _) ?_; intro wq491 hKq492 gq493; have bbq494 := below_new baq489 gq493 (Nat.le_refl _) baq489.size; have ltq495 : R < wq479.heap.size := hHq486.out.lt; have hCq496 := Lib.hid (hHq486.out.below bbq494); have hCq497 := Lib.hid (hCq484.out.below bbq494); have hBq498 := hBq485.trans (bbq494.mono hBq485.size); clear hHq486 hCq484 hBq485; clear bbq494 baq489 hNq490 gq493 hsq488; have hce := RefIs.err hCq496.out))
          clear hce
          go_roundw
          case rel => exact ⟨k + 1, ⟨L, E, (s3l, e3)⟩, v, by omega, rfl, rfl, by go_num, hup, hCq496, hCq497, Lib.hid hBq498, HL3⟩
          case measure => simp [intOf]; omega
      · have hfin : Hid (X = ⟨L, E, (sl, se)⟩) := by
          show _ = _
          rw [HUP.out, HUA.out, upAt_stop B u0 k (by rw [← HUA.out, ← HX.out]; exact hse) n (by omega), ← HUA.out, ← HX.out]
        have hez : (se == 0) = false := by simp [hse]
        clear HX HUP HUA
        have hce := RefIs.err hR.out
        go_wp2_with fail
        refine (RefREnd_calls R _ _ hR.out HL.out).mono ?_
        rintro e we ⟨rfl, rfl⟩
        obtain ⟨E9, hE9⟩ : ∃ E9, E9 = rEnd (sl, se) := ⟨_, rfl⟩
        rw [← hE9]
        have hf2 : Hid (rEnd X.s = E9) := by show _ = _; rw [hfin.out, hE9]
        have hXl : Hid (X.l = L) := by show _ = _; rw [hfin.out]
        clear hE9 hfin
        go_wp2_with fail
        go_returns
        exact ⟨_, by rw [hf2.out]; rfl, by rw [hXl.out]; exact SeedsAt.ownD hO.out HL32.out rfl, hB.out⟩
    · obtain rfl : k = n := by omega
      have hfin : Hid (X = ⟨L, E, (sl, se)⟩) := by show _ = _; rw [HUP.out, HX.out]
      clear HX HUP HUA
      go_wp2_with fail
      refine (RefREnd_calls R _ _ hR.out HL.out).mono ?_
      rintro e we ⟨rfl, rfl⟩
      obtain ⟨E9, hE9⟩ : ∃ E9, E9 = rEnd (sl, se) := ⟨_, rfl⟩
      rw [← hE9]
      have hf2 : Hid (rEnd X.s = E9) := by show _ = _; rw [hfin.out, hE9]
      have hXl : Hid (X.l = L) := by show _ = _; rw [hfin.out]
      clear hE9 hfin
      go_wp2_with fail
      go_returns
      exact ⟨_, by rw [hf2.out]; rfl, by rw [hXl.out]; exact SeedsAt.ownD hO.out HL32.out rfl, hB.out⟩
end Go.Proofs.Ytnfegmcdljejnaa
