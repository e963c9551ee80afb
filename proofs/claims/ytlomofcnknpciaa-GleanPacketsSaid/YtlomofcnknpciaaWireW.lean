/-
  The wire's writer: what each call does, as a contract over any world.
-/
import Derived.Test.YtlomofcnknpciaaF0
import Derived.Test.YtlomofcnknpciaaChecked
import Derived.Test.YtlomofcnknpciaaKit0
import Derived.WalkLawsBesides
import Derived.Outline
import Derived.Handy
set_option linter.unusedSimpArgs false
set_option linter.unusedVariables false
namespace Go.Proofs.Ytlomofcnknpciaa
open Go.RowKit

/-- Block b is a writer (made at or behind base) that has taken the bytes bs. -/
def WriterIs (base : Nat) (w : World) (b : Nat) (bs : List UInt8) (bad : Bool) : Prop :=
  base ≤ b ∧ ∃ v, Blk w b #[v, .bool bad] 222 ∧ w.ownsRow base 5 1 v bs.length (bs.map bv)

theorem WriterIs.below {base B : Nat} {w w' : World} {b : Nat} {bs : List UInt8} {bad : Bool} (h : WriterIs base w b bs bad) (hg : ∀ k, base ≤ k → k < w.heap.size → w'.heap[k]? = w.heap[k]?) : WriterIs base w' b bs bad := by
  obtain ⟨h1, v, h2, h3⟩ := h
  refine ⟨h1, v, ?_, h3.1, ?_⟩
  · unfold Blk; rw [hg b h1 h2.lt]; exact h2
  · rcases h3.2 with h | ⟨g, cap, cur, hv, hb, hh, r⟩
    · exact .inl h
    · exact .inr ⟨g, cap, cur, hv, hb, by rw [hg g hb (lt_of_block hh)]; exact hh, r⟩
theorem WriterIs.grown {base : Nat} {w w' : World} {b : Nat} {bs : List UInt8} {bad : Bool} (h : WriterIs base w b bs bad) {row : Option Nat} (hg : w.grownBy w' row) (hr : ∀ k, row = some k → k < base) : WriterIs base w' b bs bad :=
  h.below (B := 0) fun k hk hl => hg.block k hl (fun e => by have := hr k e.symm; omega)
theorem WriterIs.alloc {base : Nat} {w : World} {b : Nat} {bs : List UInt8} {bad : Bool} (h : WriterIs base w b bs bad) (o : Obj) : WriterIs base (w.alloc o) b bs bad :=
  h.grown (World.grownBy_alloc w o none) (by simp)

/-- What a writer's calls keep: all below its base, and every block that is neither bytes nor a writer. -/
abbrev WK (base : Nat) (w w' : World) : Prop := Keep [5, 222] base w w'

theorem New_calls (w : World) : Calls Try.prog 112 #[] w fun e w' => e = .returned (.pointer (some ⟨w.heap.size, 0, none⟩)) ∧ WriterIs w.heap.size w' w.heap.size [] false ∧ Below w.heap.size w w' := by
  go_enter Try.func112, Try.ntmps112
  go_wp2
  go_returns
  exact ⟨rfl, ⟨Nat.le_refl _, _, Blk.new _ _ _, World.ownsRow_nil _ _ _ _⟩, (Below.refl _ _).alloc (Nat.le_refl _) _⟩

abbrev bnds : Value := .agg #[.int .i64 64, .int .i64 16384, .int .i64 1073741824, .int .i64 4611686018427387903]
theorem bounds_calls (w : World) : Calls Try.prog 155 #[] w fun e w' => e = .returned (.agg #[.int .i64 64, .int .i64 16384, .int .i64 1073741824, .int .i64 4611686018427387903]) ∧ w' = w.alloc (.cells #[.int .i64 64, .int .i64 16384, .int .i64 1073741824, .int .i64 4611686018427387903] 223) := by
  go_enter Try.func155, Try.ntmps155
  go_wp2
  go_returns
  exact ⟨rfl, rfl⟩
theorem bnds_0 : ∀ w, (Instr.index 223 bnds (.int .i64 0)).run Try.prog w = .ok (.int .i64 64) w := fun _ => by kernel_rfl
theorem bnds_1 : ∀ w, (Instr.index 223 bnds (.int .i64 1)).run Try.prog w = .ok (.int .i64 16384) w := fun _ => by kernel_rfl
theorem bnds_2 : ∀ w, (Instr.index 223 bnds (.int .i64 2)).run Try.prog w = .ok (.int .i64 1073741824) w := fun _ => by kernel_rfl

theorem blk_two (a b u : Value) : (#[a, b] : Array Value).setIfInBounds 0 u = #[u, b] := rfl
theorem blk_two1 (a b u : Value) : (#[a, b] : Array Value).setIfInBounds 1 u = #[a, u] := rfl

theorem numBad_calls (base b : Nat) (bs : List UInt8) (bad : Bool) (n : Int) (w : World) (h : WriterIs base w b bs bad) (hn : n < 0 ∨ 4611686018427387903 < n) :
    Calls Try.prog 113 #[.pointer (some ⟨b, 0, none⟩), .int .i64 n] w fun e w' => e = .returned (.tuple #[]) ∧ WriterIs base w' b bs true ∧ WK base w w' := by
  obtain ⟨h1, v, h2, h3⟩ := h
  have hc := h2.cell 1 _ rfl
  have hf := h2.free 1
  rcases hn with hn | hn
  all_goals
    go_enter Try.func113, Try.ntmps113
    go_wp2
    go_returns
    refine ⟨rfl, ⟨h1, v, by simpa using h2.set 1 (.bool true), ownsRow_setCell_other h3 (own_ne h3 h2 (by decide)) _⟩, (Below.refl _ _).setCell h1 _, (Typed.refl _ _).set h2 (by decide) 1 _⟩

theorem kb_ne (K S : Nat) (n : Int) (k : Nat) (hk : k ≠ 0) : kb K S n k = n / 2 ^ (8 * (S - 1 - k)) % 256 := by simp [kb, hk]
theorem kb_0 (K S : Nat) (n : Int) : kb K S n 0 = bits BinOp.or IntKind.u8 (n / 2 ^ (8 * (S - 1)) % 256) (64 * (K : Int)) := by simp [kb]

theorem rel_app {base b : Nat} {w w1 : World} {v v' : Value} {bad : Bool} {n n' : Nat} {xs ys : List Value} {x : Value} {t : TypeId} (hb : base ≤ b) (h2 : Blk w b #[v, .bool bad] 222) (h3 : w.ownsRow base 5 1 v n xs)
    (h4 : w1.ownsRow base 5 1 v' n' ys) (hg : (w.alloc (.cells #[x] t)).grownBy w1 v.ownBlock) :
    Blk w1 b #[v, .bool bad] 222 ∧ (w1.setCell ⟨b, 0, none⟩ v').ownsRow base 5 1 v' n' ys ∧ Blk (w1.setCell ⟨b, 0, none⟩ v') b #[v', .bool bad] 222 ∧ (base ≤ w.heap.size → WK base w (w1.setCell ⟨b, 0, none⟩ v')) := by
  have hg' := grown_alloc_pre hg
  have hb1 : Blk w1 b #[v, .bool bad] 222 := h2.grown hg' (fun e => own_ne h3 h2 (by decide) e.symm)
  refine ⟨hb1, ownsRow_setCell_other h4 (own_ne h4 hb1 (by decide)) _, by simpa using hb1.set 0 v', fun hs => ?_⟩
  exact ⟨((Below.refl base w).grown hg' hs (fun k hk => (h3.lt k hk).1)).setCell hb _, ((Typed.refl _ _).grown h3 (by decide) hg').set hb1 (by decide) 0 _⟩

set_option maxHeartbeats 4000000 in
set_option maxRecDepth 100000 in
theorem num0_calls (base b : Nat) (bs : List UInt8) (bad : Bool) (n : Int) (w : World) (h : WriterIs base w b bs bad) (hs : base ≤ w.heap.size) (hl : bs.length ≤ 1099511627776) (hn1 : 0 ≤ n) (hn2 : n < 64) :
    Calls Try.prog 113 #[.pointer (some ⟨b, 0, none⟩), .int .i64 n] w fun e w' => e = .returned (.tuple #[]) ∧ WriterIs base w' b (bs ++ numB n.toNat) bad ∧ WK base w w' := by
  have i0 := bnds_0
  go_enter Try.func113, Try.ntmps113
  go_wp2_with fail
  refine wp_loop_rounds 1 ?_
  rw [rounds_succ]
  go_wp2_with (go_at_call 155; refine (bounds_calls _).mono ?_; rintro e w' ⟨rfl, rfl⟩)
  obtain ⟨i, hi, hz0, hz1, hz2⟩ := info_parts Try.infoU8
  go_loopw [6, 7, 33] (fun _ _ j wr => ∃ k : Nat, k ≤ 1 ∧ j = .int .i64 k ∧ base ≤ wr.heap.size ∧ (∃ v, Blk wr b #[v, .bool bad] 222 ∧ wr.ownsRow base 5 1 v (bs.length + k) (bs.map bv ++ kbs 0 1 n k)) ∧ WK base w wr) (fun _ _ j _ => 1 - (intOf j).toNat)
  case atStart =>
    obtain ⟨h1, v, h2, h3⟩ := h
    exact ⟨0, by omega, rfl, by simp; omega, ⟨v, (h2.alloc _), by simpa [kbs] using (h3.alloc _)⟩, (Keep.refl _ _ _).alloc hs _⟩
  case round =>
    obtain ⟨k, hk, rfl, hs', ⟨v, h2, h3⟩, hb⟩ := hrel
    obtain ⟨ao, c, rfl⟩ := own_slice h3
    have hb0 := h.1
    clear h
    have hc := h2.cell 0 _ rfl
    have hf := h2.free 0
    by_cases hlt : k < 1
    · go_wp2_with (at_builtin; refine wpList_append_own _ rfl _ _ 69 rfl base 5 i (.int .u8 0) 1 1 Try.underlying69 hi hz0 hz1 hz2 rfl (by decide) _ _ _ rfl (h3.alloc _) ⟨wr.heap.size, 0, none⟩ 1 1 [_] rfl rfl (cell_one_new _ _ _) ?_ ?_ ?_ ?_ ?_)
      all_goals first | (intro u hu; simp at hu; subst hu; rfl) | (unfold maxLen; omega) | omega | (simp; omega) | skip
      all_goals
        intro v' w1 hown hgrow _
        obtain ⟨ao', c', rfl⟩ := own_slice hown
        obtain ⟨hb1, hown1, hb2, hbel⟩ := rel_app hb0 h2 h3 hown hgrow
        have hc1 := hb1.cell 0 _ rfl
        have hf1 := hb1.free 0
        have hsz : wr.heap.size ≤ w1.heap.size := (grown_alloc_pre hgrow).size
        have HB : Hid (WK base wr (w1.setCell ⟨b, 0, none⟩ (.slice ao' (bs.length + k + 1) c'))) := hbel hs'
        clear hown hgrow h3 h2 hc hf hb1 hbel
        go_wp2
        go_roundw
        case rel =>
          refine ⟨k + 1, by omega, by go_num, by simp; omega, ⟨_, hb2, ?_⟩, hb.trans HB.out⟩
          rw [kbs_succ, ← List.append_assoc]
          first
            | (have h0 : k = 0 := by simp at *; omega
               subst h0
               rw [kb_0]
               simpa [Nat.add_assoc] using hown1)
            | (rw [kb_ne _ _ _ _ (by simp at *; omega)]
               simpa [Nat.add_assoc] using hown1)
        case measure => simp [intOf]; omega
    · have : k = 1 := by omega
      subst this
      go_wp2_with fail
      go_returns
      have hlen : (numB n.toNat).length = 1 := by have := congrArg List.length (kbs_1 n.toNat (by omega)); simpa [kbs_len] using this.symm
      rw [show (n : Int) = (n.toNat : Int) by omega, kbs_1 n.toNat (by omega)] at h3
      exact ⟨rfl, ⟨hb0, _, h2, by simpa [hlen] using h3⟩, hb⟩
set_option maxHeartbeats 4000000 in
set_option maxRecDepth 100000 in
theorem num1_calls (base b : Nat) (bs : List UInt8) (bad : Bool) (n : Int) (w : World) (h : WriterIs base w b bs bad) (hs : base ≤ w.heap.size) (hl : bs.length ≤ 1099511627776) (hn1 : 64 ≤ n) (hn2 : n < 16384) :
    Calls Try.prog 113 #[.pointer (some ⟨b, 0, none⟩), .int .i64 n] w fun e w' => e = .returned (.tuple #[]) ∧ WriterIs base w' b (bs ++ numB n.toNat) bad ∧ WK base w w' := by
  have i0 := bnds_0
  have i1 := bnds_1
  go_enter Try.func113, Try.ntmps113
  go_wp2_with fail
  refine wp_loop_rounds 2 ?_
  rw [rounds_succ]
  go_wp2_with (go_at_call 155; refine (bounds_calls _).mono ?_; rintro e w' ⟨rfl, rfl⟩)
  rw [rounds_succ]
  go_wp2_with (go_at_call 155; refine (bounds_calls _).mono ?_; rintro e w' ⟨rfl, rfl⟩)
  obtain ⟨i, hi, hz0, hz1, hz2⟩ := info_parts Try.infoU8
  go_loopw [6, 7, 33] (fun _ _ j wr => ∃ k : Nat, k ≤ 2 ∧ j = .int .i64 k ∧ base ≤ wr.heap.size ∧ (∃ v, Blk wr b #[v, .bool bad] 222 ∧ wr.ownsRow base 5 1 v (bs.length + k) (bs.map bv ++ kbs 1 2 n k)) ∧ WK base w wr) (fun _ _ j _ => 2 - (intOf j).toNat)
  case atStart =>
    obtain ⟨h1, v, h2, h3⟩ := h
    exact ⟨0, by omega, rfl, by simp; omega, ⟨v, ((h2.alloc _).alloc _), by simpa [kbs] using ((h3.alloc _).alloc _)⟩, ((Keep.refl _ _ _).alloc hs _).alloc (by simp; omega) _⟩
  case round =>
    obtain ⟨k, hk, rfl, hs', ⟨v, h2, h3⟩, hb⟩ := hrel
    obtain ⟨ao, c, rfl⟩ := own_slice h3
    have hb0 := h.1
    clear h
    have hc := h2.cell 0 _ rfl
    have hf := h2.free 0
    by_cases hlt : k < 2
    · go_wp2_with (at_builtin; refine wpList_append_own _ rfl _ _ 69 rfl base 5 i (.int .u8 0) 1 1 Try.underlying69 hi hz0 hz1 hz2 rfl (by decide) _ _ _ rfl (h3.alloc _) ⟨wr.heap.size, 0, none⟩ 1 1 [_] rfl rfl (cell_one_new _ _ _) ?_ ?_ ?_ ?_ ?_)
      all_goals first | (intro u hu; simp at hu; subst hu; rfl) | (unfold maxLen; omega) | omega | (simp; omega) | skip
      all_goals
        intro v' w1 hown hgrow _
        obtain ⟨ao', c', rfl⟩ := own_slice hown
        obtain ⟨hb1, hown1, hb2, hbel⟩ := rel_app hb0 h2 h3 hown hgrow
        have hc1 := hb1.cell 0 _ rfl
        have hf1 := hb1.free 0
        have hsz : wr.heap.size ≤ w1.heap.size := (grown_alloc_pre hgrow).size
        have HB : Hid (WK base wr (w1.setCell ⟨b, 0, none⟩ (.slice ao' (bs.length + k + 1) c'))) := hbel hs'
        clear hown hgrow h3 h2 hc hf hb1 hbel
        go_wp2
        go_roundw
        case rel =>
          refine ⟨k + 1, by omega, by go_num, by simp; omega, ⟨_, hb2, ?_⟩, hb.trans HB.out⟩
          rw [kbs_succ, ← List.append_assoc]
          first
            | (have h0 : k = 0 := by simp at *; omega
               subst h0
               rw [kb_0]
               simpa [Nat.add_assoc] using hown1)
            | (rw [kb_ne _ _ _ _ (by simp at *; omega)]
               simpa [Nat.add_assoc] using hown1)
        case measure => simp [intOf]; omega
    · have : k = 2 := by omega
      subst this
      go_wp2_with fail
      go_returns
      have hlen : (numB n.toNat).length = 2 := by have := congrArg List.length (kbs_2 n.toNat (by omega) (by omega)); simpa [kbs_len] using this.symm
      rw [show (n : Int) = (n.toNat : Int) by omega, kbs_2 n.toNat (by omega) (by omega)] at h3
      exact ⟨rfl, ⟨hb0, _, h2, by simpa [hlen] using h3⟩, hb⟩
set_option maxHeartbeats 4000000 in
set_option maxRecDepth 100000 in
theorem num2_calls (base b : Nat) (bs : List UInt8) (bad : Bool) (n : Int) (w : World) (h : WriterIs base w b bs bad) (hs : base ≤ w.heap.size) (hl : bs.length ≤ 1099511627776) (hn1 : 16384 ≤ n) (hn2 : n < 1073741824) :
    Calls Try.prog 113 #[.pointer (some ⟨b, 0, none⟩), .int .i64 n] w fun e w' => e = .returned (.tuple #[]) ∧ WriterIs base w' b (bs ++ numB n.toNat) bad ∧ WK base w w' := by
  have i0 := bnds_0
  have i1 := bnds_1
  have i2 := bnds_2
  go_enter Try.func113, Try.ntmps113
  go_wp2_with fail
  refine wp_loop_rounds 3 ?_
  rw [rounds_succ]
  go_wp2_with (go_at_call 155; refine (bounds_calls _).mono ?_; rintro e w' ⟨rfl, rfl⟩)
  rw [rounds_succ]
  go_wp2_with (go_at_call 155; refine (bounds_calls _).mono ?_; rintro e w' ⟨rfl, rfl⟩)
  rw [rounds_succ]
  go_wp2_with (go_at_call 155; refine (bounds_calls _).mono ?_; rintro e w' ⟨rfl, rfl⟩)
  obtain ⟨i, hi, hz0, hz1, hz2⟩ := info_parts Try.infoU8
  go_loopw [6, 7, 33] (fun _ _ j wr => ∃ k : Nat, k ≤ 4 ∧ j = .int .i64 k ∧ base ≤ wr.heap.size ∧ (∃ v, Blk wr b #[v, .bool bad] 222 ∧ wr.ownsRow base 5 1 v (bs.length + k) (bs.map bv ++ kbs 2 4 n k)) ∧ WK base w wr) (fun _ _ j _ => 4 - (intOf j).toNat)
  case atStart =>
    obtain ⟨h1, v, h2, h3⟩ := h
    exact ⟨0, by omega, rfl, by simp; omega, ⟨v, (((h2.alloc _).alloc _).alloc _), by simpa [kbs] using (((h3.alloc _).alloc _).alloc _)⟩, (((Keep.refl _ _ _).alloc hs _).alloc (by simp; omega) _).alloc (by simp; omega) _⟩
  case round =>
    obtain ⟨k, hk, rfl, hs', ⟨v, h2, h3⟩, hb⟩ := hrel
    obtain ⟨ao, c, rfl⟩ := own_slice h3
    have hb0 := h.1
    clear h
    have hc := h2.cell 0 _ rfl
    have hf := h2.free 0
    by_cases hlt : k < 4
    · go_wp2_with (at_builtin; refine wpList_append_own _ rfl _ _ 69 rfl base 5 i (.int .u8 0) 1 1 Try.underlying69 hi hz0 hz1 hz2 rfl (by decide) _ _ _ rfl (h3.alloc _) ⟨wr.heap.size, 0, none⟩ 1 1 [_] rfl rfl (cell_one_new _ _ _) ?_ ?_ ?_ ?_ ?_)
      all_goals first | (intro u hu; simp at hu; subst hu; rfl) | (unfold maxLen; omega) | omega | (simp; omega) | skip
      all_goals
        intro v' w1 hown hgrow _
        obtain ⟨ao', c', rfl⟩ := own_slice hown
        obtain ⟨hb1, hown1, hb2, hbel⟩ := rel_app hb0 h2 h3 hown hgrow
        have hc1 := hb1.cell 0 _ rfl
        have hf1 := hb1.free 0
        have hsz : wr.heap.size ≤ w1.heap.size := (grown_alloc_pre hgrow).size
        have HB : Hid (WK base wr (w1.setCell ⟨b, 0, none⟩ (.slice ao' (bs.length + k + 1) c'))) := hbel hs'
        clear hown hgrow h3 h2 hc hf hb1 hbel
        go_wp2
        go_roundw
        case rel =>
          refine ⟨k + 1, by omega, by go_num, by simp; omega, ⟨_, hb2, ?_⟩, hb.trans HB.out⟩
          rw [kbs_succ, ← List.append_assoc]
          first
            | (have h0 : k = 0 := by simp at *; omega
               subst h0
               rw [kb_0]
               simpa [Nat.add_assoc] using hown1)
            | (rw [kb_ne _ _ _ _ (by simp at *; omega)]
               simpa [Nat.add_assoc] using hown1)
        case measure => simp [intOf]; omega
    · have : k = 4 := by omega
      subst this
      go_wp2_with fail
      go_returns
      have hlen : (numB n.toNat).length = 4 := by have := congrArg List.length (kbs_4 n.toNat (by omega) (by omega)); simpa [kbs_len] using this.symm
      rw [show (n : Int) = (n.toNat : Int) by omega, kbs_4 n.toNat (by omega) (by omega)] at h3
      exact ⟨rfl, ⟨hb0, _, h2, by simpa [hlen] using h3⟩, hb⟩
set_option maxHeartbeats 4000000 in
set_option maxRecDepth 100000 in
theorem num3_calls (base b : Nat) (bs : List UInt8) (bad : Bool) (n : Int) (w : World) (h : WriterIs base w b bs bad) (hs : base ≤ w.heap.size) (hl : bs.length ≤ 1099511627776) (hn1 : 1073741824 ≤ n) (hn2 : n ≤ 4611686018427387903) :
    Calls Try.prog 113 #[.pointer (some ⟨b, 0, none⟩), .int .i64 n] w fun e w' => e = .returned (.tuple #[]) ∧ WriterIs base w' b (bs ++ numB n.toNat) bad ∧ WK base w w' := by
  have i0 := bnds_0
  have i1 := bnds_1
  have i2 := bnds_2
  go_enter Try.func113, Try.ntmps113
  go_wp2_with fail
  refine wp_loop_rounds 4 ?_
  rw [rounds_succ]
  go_wp2_with (go_at_call 155; refine (bounds_calls _).mono ?_; rintro e w' ⟨rfl, rfl⟩)
  rw [rounds_succ]
  go_wp2_with (go_at_call 155; refine (bounds_calls _).mono ?_; rintro e w' ⟨rfl, rfl⟩)
  rw [rounds_succ]
  go_wp2_with (go_at_call 155; refine (bounds_calls _).mono ?_; rintro e w' ⟨rfl, rfl⟩)
  rw [rounds_succ]
  go_wp2_with (go_at_call 155; refine (bounds_calls _).mono ?_; rintro e w' ⟨rfl, rfl⟩)
  obtain ⟨i, hi, hz0, hz1, hz2⟩ := info_parts Try.infoU8
  go_loopw [6, 7, 33] (fun _ _ j wr => ∃ k : Nat, k ≤ 8 ∧ j = .int .i64 k ∧ base ≤ wr.heap.size ∧ (∃ v, Blk wr b #[v, .bool bad] 222 ∧ wr.ownsRow base 5 1 v (bs.length + k) (bs.map bv ++ kbs 3 8 n k)) ∧ WK base w wr) (fun _ _ j _ => 8 - (intOf j).toNat)
  case atStart =>
    obtain ⟨h1, v, h2, h3⟩ := h
    exact ⟨0, by omega, rfl, by simp; omega, ⟨v, (((h2.alloc _).alloc _).alloc _), by simpa [kbs] using (((h3.alloc _).alloc _).alloc _)⟩, (((Keep.refl _ _ _).alloc hs _).alloc (by simp; omega) _).alloc (by simp; omega) _⟩
  case round =>
    obtain ⟨k, hk, rfl, hs', ⟨v, h2, h3⟩, hb⟩ := hrel
    obtain ⟨ao, c, rfl⟩ := own_slice h3
    have hb0 := h.1
    clear h
    have hc := h2.cell 0 _ rfl
    have hf := h2.free 0
    by_cases hlt : k < 8
    · go_wp2_with (at_builtin; refine wpList_append_own _ rfl _ _ 69 rfl base 5 i (.int .u8 0) 1 1 Try.underlying69 hi hz0 hz1 hz2 rfl (by decide) _ _ _ rfl (h3.alloc _) ⟨wr.heap.size, 0, none⟩ 1 1 [_] rfl rfl (cell_one_new _ _ _) ?_ ?_ ?_ ?_ ?_)
      all_goals first | (intro u hu; simp at hu; subst hu; rfl) | (unfold maxLen; omega) | omega | (simp; omega) | skip
      all_goals
        intro v' w1 hown hgrow _
        obtain ⟨ao', c', rfl⟩ := own_slice hown
        obtain ⟨hb1, hown1, hb2, hbel⟩ := rel_app hb0 h2 h3 hown hgrow
        have hc1 := hb1.cell 0 _ rfl
        have hf1 := hb1.free 0
        have hsz : wr.heap.size ≤ w1.heap.size := (grown_alloc_pre hgrow).size
        have HB : Hid (WK base wr (w1.setCell ⟨b, 0, none⟩ (.slice ao' (bs.length + k + 1) c'))) := hbel hs'
        clear hown hgrow h3 h2 hc hf hb1 hbel
        go_wp2
        go_roundw
        case rel =>
          refine ⟨k + 1, by omega, by go_num, by simp; omega, ⟨_, hb2, ?_⟩, hb.trans HB.out⟩
          rw [kbs_succ, ← List.append_assoc]
          first
            | (have h0 : k = 0 := by simp at *; omega
               subst h0
               rw [kb_0]
               simpa [Nat.add_assoc] using hown1)
            | (rw [kb_ne _ _ _ _ (by simp at *; omega)]
               simpa [Nat.add_assoc] using hown1)
        case measure => simp [intOf]; omega
    · have : k = 8 := by omega
      subst this
      go_wp2_with fail
      go_returns
      have hlen : (numB n.toNat).length = 8 := by have := congrArg List.length (kbs_8 n.toNat (by omega) (by omega)); simpa [kbs_len] using this.symm
      rw [show (n : Int) = (n.toNat : Int) by omega, kbs_8 n.toNat (by omega) (by omega)] at h3
      exact ⟨rfl, ⟨hb0, _, h2, by simpa [hlen] using h3⟩, hb⟩

/-- A number that may be written: its bytes are appended. -/
theorem num_calls (base b : Nat) (bs : List UInt8) (bad : Bool) (n : Int) (w : World) (h : WriterIs base w b bs bad) (hs : base ≤ w.heap.size) (hl : bs.length ≤ 1099511627776) (h0 : 0 ≤ n) (h1 : n ≤ 4611686018427387903) :
    Calls Try.prog 113 #[.pointer (some ⟨b, 0, none⟩), .int .i64 n] w fun e w' => e = .returned (.tuple #[]) ∧ WriterIs base w' b (bs ++ numB n.toNat) bad ∧ WK base w w' := by
  by_cases a : n < 64
  · exact num0_calls base b bs bad n w h hs hl h0 a
  by_cases c : n < 16384
  · exact num1_calls base b bs bad n w h hs hl (by omega) c
  by_cases d : n < 1073741824
  · exact num2_calls base b bs bad n w h hs hl (by omega) d
  · exact num3_calls base b bs bad n w h hs hl (by omega) h1
end Go.Proofs.Ytlomofcnknpciaa
