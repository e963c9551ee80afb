/-
  The wire's writer: what each call does, as a contract over any world. The wire's writer, the other calls that keys need: Hash, End. The document's answer for the wire: Num. The wire's writer, the other calls: Text, Flag, Hash, End. The document's answer for the wire: Num, Text, Hash, Flag.
-/
import Derived.Test.YtjlpdbaknhbgdaaGreatQBase
import Derived.Test.YtjlpdbaknhbgdaaGreatChecked
import Derived.WalkLawsBesides
import Derived.Outline
import Derived.Handy
import Derived.Lib.AppendStr
import Derived.Deep.AppendLies
import Derived.Deep.RegionLaw
set_option linter.unusedSimpArgs false
set_option linter.unusedVariables false
namespace Go.Proofs.YtjlpdbaknhbgdaaGreat
open Go.RowKit

/-- Block b is a writer (made at or behind base) that has taken the bytes bs. -/
def WriterIs (base : Nat) (w : World) (b : Nat) (bs : List UInt8) (bad : Bool) : Prop :=
  base ≤ b ∧ ∃ v, Blk w b #[v, .bool bad] 221 ∧ w.ownsRow base 5 1 v bs.length (bs.map bv)

theorem WriterIs.below {base B : Nat} {w w' : World} {b : Nat} {bs : List UInt8} {bad : Bool} (h : WriterIs base w b bs bad) (hg : ∀ k, base ≤ k → k < w.heap.size → w'.heap[k]? = w.heap[k]?) : WriterIs base w' b bs bad := by
  obtain ⟨h1, v, h2, h3⟩ := h
  refine ⟨h1, v, ?_, h3.1, ?_⟩
  · unfold Blk; rw [hg b h1 h2.lt]; exact h2
  · rcases h3.2 with h | ⟨g, cap, cur, hv, hb, hh, r⟩
    · exact .inl h
    · exact .inr ⟨g, cap, cur, hv, hb, by rw [hg g hb (lt_of_block hh)]; exact hh, r⟩
theorem WriterIs.grown {base : Nat} {w w' : World} {b : Nat} {bs : List UInt8} {bad : Bool} (h : WriterIs base w b bs bad) {row : Option Nat} (hg : w.grownBy w' row) (hr : ∀ k, row = some k → k < base) : WriterIs base w' b bs bad :=
  h.below (B := 0) fun k hk hl => hg.block k hl (fun e => by have := hr k e.symm; omega)
theorem WriterIs.alloc {base : Nat} {w : World} {b : Nat} {bs : List UInt8} {bad : Bool} (h : WriterIs base w b bs bad) (o : Obj) : WriterIs base (w.alloc o) b bs bad :=
  h.grown (World.grownBy_alloc w o none) (by simp)

/-- What a writer's calls keep: all below its base, and every block that is neither bytes nor a writer. -/
abbrev WK (base : Nat) (w w' : World) : Prop := Keep [5, 221] base w w'

theorem New_calls (w : World) : Calls Tryz.prog 56 #[] w fun e w' => e = .returned (.pointer (some ⟨w.heap.size, 0, none⟩)) ∧ WriterIs w.heap.size w' w.heap.size [] false ∧ Below w.heap.size w w' := by
  go_enter Tryz.func56, Tryz.ntmps56
  go_wp2
  go_returns
  exact ⟨rfl, ⟨Nat.le_refl _, _, Blk.new _ _ _, World.ownsRow_nil _ _ _ _⟩, (Below.refl _ _).alloc (Nat.le_refl _) _⟩

abbrev bnds : Value := .agg #[.int .i64 64, .int .i64 16384, .int .i64 1073741824, .int .i64 4611686018427387903]
theorem bounds_calls (w : World) : Calls Tryz.prog 133 #[] w fun e w' => e = .returned (.agg #[.int .i64 64, .int .i64 16384, .int .i64 1073741824, .int .i64 4611686018427387903]) ∧ w' = w.alloc (.cells #[.int .i64 64, .int .i64 16384, .int .i64 1073741824, .int .i64 4611686018427387903] 222) := by
  go_enter Tryz.func133, Tryz.ntmps133
  go_wp2
  go_returns
  exact ⟨rfl, rfl⟩
theorem bnds_0 : ∀ w, (Instr.index 222 bnds (.int .i64 0)).run Tryz.prog w = .ok (.int .i64 64) w := fun _ => by kernel_rfl
theorem bnds_1 : ∀ w, (Instr.index 222 bnds (.int .i64 1)).run Tryz.prog w = .ok (.int .i64 16384) w := fun _ => by kernel_rfl
theorem bnds_2 : ∀ w, (Instr.index 222 bnds (.int .i64 2)).run Tryz.prog w = .ok (.int .i64 1073741824) w := fun _ => by kernel_rfl

theorem kb_ne (K S : Nat) (n : Int) (k : Nat) (hk : k ≠ 0) : kb K S n k = n / 2 ^ (8 * (S - 1 - k)) % 256 := by simp [kb, hk]
theorem kb_0 (K S : Nat) (n : Int) : kb K S n 0 = bits BinOp.or IntKind.u8 (n / 2 ^ (8 * (S - 1)) % 256) (64 * (K : Int)) := by simp [kb]

theorem rel_app {base b : Nat} {w w1 : World} {v v' : Value} {bad : Bool} {n n' : Nat} {xs ys : List Value} {x : Value} {t : TypeId} (hb : base ≤ b) (h2 : Blk w b #[v, .bool bad] 221) (h3 : w.ownsRow base 5 1 v n xs)
    (h4 : w1.ownsRow base 5 1 v' n' ys) (hg : (w.alloc (.cells #[x] t)).grownBy w1 v.ownBlock) :
    Blk w1 b #[v, .bool bad] 221 ∧ (w1.setCell ⟨b, 0, none⟩ v').ownsRow base 5 1 v' n' ys ∧ Blk (w1.setCell ⟨b, 0, none⟩ v') b #[v', .bool bad] 221 ∧ (base ≤ w.heap.size → WK base w (w1.setCell ⟨b, 0, none⟩ v')) := by
  have hg' := grown_alloc_pre hg
  have hb1 : Blk w1 b #[v, .bool bad] 221 := h2.grown hg' (fun e => own_ne h3 h2 (by decide) e.symm)
  refine ⟨hb1, ownsRow_setCell_other h4 (own_ne h4 hb1 (by decide)) _, by simpa using hb1.set 0 v', fun hs => ?_⟩
  exact ⟨((Below.refl base w).grown hg' hs (fun k hk => (h3.lt k hk).1)).setCell hb _, ((Typed.refl _ _).grown h3 (by decide) hg').set hb1 (by decide) 0 _⟩

set_option maxHeartbeats 4000000 in
set_option maxRecDepth 100000 in
theorem num0_calls (base b : Nat) (bs : List UInt8) (bad : Bool) (n : Int) (w : World) (h : WriterIs base w b bs bad) (hs : base ≤ w.heap.size) (hl : bs.length ≤ 1099511627776) (hn1 : 0 ≤ n) (hn2 : n < 64) :
    Calls Tryz.prog 58 #[.pointer (some ⟨b, 0, none⟩), .int .i64 n] w fun e w' => e = .returned (.tuple #[]) ∧ WriterIs base w' b (bs ++ numB n.toNat) bad ∧ WK base w w' := by
  have i0 := bnds_0
  go_enter Tryz.func58, Tryz.ntmps58
  go_wp2_with fail
  refine wp_loop_rounds 1 ?_
  rw [rounds_succ]
  go_wp2_with (go_at_call 133; refine (bounds_calls _).mono ?_; rintro e w' ⟨rfl, rfl⟩)
  obtain ⟨i, hi, hz0, hz1, hz2⟩ := info_parts Tryz.infoU8
  go_loopw [6, 7, 33] (fun _ _ j wr => ∃ k : Nat, k ≤ 1 ∧ j = .int .i64 k ∧ base ≤ wr.heap.size ∧ (∃ v, Blk wr b #[v, .bool bad] 221 ∧ wr.ownsRow base 5 1 v (bs.length + k) (bs.map bv ++ kbs 0 1 n k)) ∧ WK base w wr) (fun _ _ j _ => 1 - (intOf j).toNat)
  case atStart =>
    obtain ⟨h1, v, h2, h3⟩ := h
    exact ⟨0, by omega, rfl, by simp; omega, ⟨v, (h2.alloc _), by simpa [kbs] using (h3.alloc _)⟩, (Keep.refl _ _ _).alloc hs _⟩
  case round =>
    obtain ⟨k, hk, rfl, hs', ⟨v, h2, h3⟩, hb⟩ := hrel
    obtain ⟨ao, c, rfl⟩ := own_slice h3
    have hb0 := h.1
    clear h
    have hc := h2.cell 0 _ rfl
    have hf := h2.free 0
    by_cases hlt : k < 1
    · go_wp2_with (at_builtin; refine wpList_append_own _ rfl _ _ 48 rfl base 5 i (.int .u8 0) 1 1 Tryz.underlying48 hi hz0 hz1 hz2 rfl (by decide) _ _ _ rfl (h3.alloc _) ⟨wr.heap.size, 0, none⟩ 1 1 [_] rfl rfl (cell_one_new _ _ _) ?_ ?_ ?_ ?_ ?_)
      all_goals first | (intro u hu; simp at hu; subst hu; rfl) | (unfold maxLen; omega) | omega | (simp; omega) | skip
      all_goals
        intro v' w1 hown hgrow _
        obtain ⟨ao', c', rfl⟩ := own_slice hown
        obtain ⟨hb1, hown1, hb2, hbel⟩ := rel_app hb0 h2 h3 hown hgrow
        have hc1 := hb1.cell 0 _ rfl
        have hf1 := hb1.free 0
        have hsz : wr.heap.size ≤ w1.heap.size := (grown_alloc_pre hgrow).size
        have HB : Hid (WK base wr (w1.setCell ⟨b, 0, none⟩ (.slice ao' (bs.length + k + 1) c'))) := hbel hs'
        clear hown hgrow h3 h2 hc hf hb1 hbel
        go_wp2
        go_roundw
        case rel =>
          refine ⟨k + 1, by omega, by go_num, by simp; omega, ⟨_, hb2, ?_⟩, hb.trans HB.out⟩
          rw [kbs_succ, ← List.append_assoc]
          first
            | (have h0 : k = 0 := by simp at *; omega
               subst h0
               rw [kb_0]
               simpa [Nat.add_assoc] using hown1)
            | (rw [kb_ne _ _ _ _ (by simp at *; omega)]
               simpa [Nat.add_assoc] using hown1)
        case measure => simp [intOf]; omega
    · have : k = 1 := by omega
      subst this
      go_wp2_with fail
      go_returns
      have hlen : (numB n.toNat).length = 1 := by have := congrArg List.length (kbs_1 n.toNat (by omega)); simpa [kbs_len] using this.symm
      rw [show (n : Int) = (n.toNat : Int) by omega, kbs_1 n.toNat (by omega)] at h3
      exact ⟨rfl, ⟨hb0, _, h2, by simpa [hlen] using h3⟩, hb⟩
set_option maxHeartbeats 4000000 in
set_option maxRecDepth 100000 in
theorem num1_calls (base b : Nat) (bs : List UInt8) (bad : Bool) (n : Int) (w : World) (h : WriterIs base w b bs bad) (hs : base ≤ w.heap.size) (hl : bs.length ≤ 1099511627776) (hn1 : 64 ≤ n) (hn2 : n < 16384) :
    Calls Tryz.prog 58 #[.pointer (some ⟨b, 0, none⟩), .int .i64 n] w fun e w' => e = .returned (.tuple #[]) ∧ WriterIs base w' b (bs ++ numB n.toNat) bad ∧ WK base w w' := by
  have i0 := bnds_0
  have i1 := bnds_1
  go_enter Tryz.func58, Tryz.ntmps58
  go_wp2_with fail
  refine wp_loop_rounds 2 ?_
  rw [rounds_succ]
  go_wp2_with (go_at_call 133; refine (bounds_calls _).mono ?_; rintro e w' ⟨rfl, rfl⟩)
  rw [rounds_succ]
  go_wp2_with (go_at_call 133; refine (bounds_calls _).mono ?_; rintro e w' ⟨rfl, rfl⟩)
  obtain ⟨i, hi, hz0, hz1, hz2⟩ := info_parts Tryz.infoU8
  go_loopw [6, 7, 33] (fun _ _ j wr => ∃ k : Nat, k ≤ 2 ∧ j = .int .i64 k ∧ base ≤ wr.heap.size ∧ (∃ v, Blk wr b #[v, .bool bad] 221 ∧ wr.ownsRow base 5 1 v (bs.length + k) (bs.map bv ++ kbs 1 2 n k)) ∧ WK base w wr) (fun _ _ j _ => 2 - (intOf j).toNat)
  case atStart =>
    obtain ⟨h1, v, h2, h3⟩ := h
    exact ⟨0, by omega, rfl, by simp; omega, ⟨v, ((h2.alloc _).alloc _), by simpa [kbs] using ((h3.alloc _).alloc _)⟩, ((Keep.refl _ _ _).alloc hs _).alloc (by simp; omega) _⟩
  case round =>
    obtain ⟨k, hk, rfl, hs', ⟨v, h2, h3⟩, hb⟩ := hrel
    obtain ⟨ao, c, rfl⟩ := own_slice h3
    have hb0 := h.1
    clear h
    have hc := h2.cell 0 _ rfl
    have hf := h2.free 0
    by_cases hlt : k < 2
    · go_wp2_with (at_builtin; refine wpList_append_own _ rfl _ _ 48 rfl base 5 i (.int .u8 0) 1 1 Tryz.underlying48 hi hz0 hz1 hz2 rfl (by decide) _ _ _ rfl (h3.alloc _) ⟨wr.heap.size, 0, none⟩ 1 1 [_] rfl rfl (cell_one_new _ _ _) ?_ ?_ ?_ ?_ ?_)
      all_goals first | (intro u hu; simp at hu; subst hu; rfl) | (unfold maxLen; omega) | omega | (simp; omega) | skip
      all_goals
        intro v' w1 hown hgrow _
        obtain ⟨ao', c', rfl⟩ := own_slice hown
        obtain ⟨hb1, hown1, hb2, hbel⟩ := rel_app hb0 h2 h3 hown hgrow
        have hc1 := hb1.cell 0 _ rfl
        have hf1 := hb1.free 0
        have hsz : wr.heap.size ≤ w1.heap.size := (grown_alloc_pre hgrow).size
        have HB : Hid (WK base wr (w1.setCell ⟨b, 0, none⟩ (.slice ao' (bs.length + k + 1) c'))) := hbel hs'
        clear hown hgrow h3 h2 hc hf hb1 hbel
        go_wp2
        go_roundw
        case rel =>
          refine ⟨k + 1, by omega, by go_num, by simp; omega, ⟨_, hb2, ?_⟩, hb.trans HB.out⟩
          rw [kbs_succ, ← List.append_assoc]
          first
            | (have h0 : k = 0 := by simp at *; omega
               subst h0
               rw [kb_0]
               simpa [Nat.add_assoc] using hown1)
            | (rw [kb_ne _ _ _ _ (by simp at *; omega)]
               simpa [Nat.add_assoc] using hown1)
        case measure => simp [intOf]; omega
    · have : k = 2 := by omega
      subst this
      go_wp2_with fail
      go_returns
      have hlen : (numB n.toNat).length = 2 := by have := congrArg List.length (kbs_2 n.toNat (by omega) (by omega)); simpa [kbs_len] using this.symm
      rw [show (n : Int) = (n.toNat : Int) by omega, kbs_2 n.toNat (by omega) (by omega)] at h3
      exact ⟨rfl, ⟨hb0, _, h2, by simpa [hlen] using h3⟩, hb⟩
set_option maxHeartbeats 4000000 in
set_option maxRecDepth 100000 in
theorem num2_calls (base b : Nat) (bs : List UInt8) (bad : Bool) (n : Int) (w : World) (h : WriterIs base w b bs bad) (hs : base ≤ w.heap.size) (hl : bs.length ≤ 1099511627776) (hn1 : 16384 ≤ n) (hn2 : n < 1073741824) :
    Calls Tryz.prog 58 #[.pointer (some ⟨b, 0, none⟩), .int .i64 n] w fun e w' => e = .returned (.tuple #[]) ∧ WriterIs base w' b (bs ++ numB n.toNat) bad ∧ WK base w w' := by
  have i0 := bnds_0
  have i1 := bnds_1
  have i2 := bnds_2
  go_enter Tryz.func58, Tryz.ntmps58
  go_wp2_with fail
  refine wp_loop_rounds 3 ?_
  rw [rounds_succ]
  go_wp2_with (go_at_call 133; refine (bounds_calls _).mono ?_; rintro e w' ⟨rfl, rfl⟩)
  rw [rounds_succ]
  go_wp2_with (go_at_call 133; refine (bounds_calls _).mono ?_; rintro e w' ⟨rfl, rfl⟩)
  rw [rounds_succ]
  go_wp2_with (go_at_call 133; refine (bounds_calls _).mono ?_; rintro e w' ⟨rfl, rfl⟩)
  obtain ⟨i, hi, hz0, hz1, hz2⟩ := info_parts Tryz.infoU8
  go_loopw [6, 7, 33] (fun _ _ j wr => ∃ k : Nat, k ≤ 4 ∧ j = .int .i64 k ∧ base ≤ wr.heap.size ∧ (∃ v, Blk wr b #[v, .bool bad] 221 ∧ wr.ownsRow base 5 1 v (bs.length + k) (bs.map bv ++ kbs 2 4 n k)) ∧ WK base w wr) (fun _ _ j _ => 4 - (intOf j).toNat)
  case atStart =>
    obtain ⟨h1, v, h2, h3⟩ := h
    exact ⟨0, by omega, rfl, by simp; omega, ⟨v, (((h2.alloc _).alloc _).alloc _), by simpa [kbs] using (((h3.alloc _).alloc _).alloc _)⟩, (((Keep.refl _ _ _).alloc hs _).alloc (by simp; omega) _).alloc (by simp; omega) _⟩
  case round =>
    obtain ⟨k, hk, rfl, hs', ⟨v, h2, h3⟩, hb⟩ := hrel
    obtain ⟨ao, c, rfl⟩ := own_slice h3
    have hb0 := h.1
    clear h
    have hc := h2.cell 0 _ rfl
    have hf := h2.free 0
    by_cases hlt : k < 4
    · go_wp2_with (at_builtin; refine wpList_append_own _ rfl _ _ 48 rfl base 5 i (.int .u8 0) 1 1 Tryz.underlying48 hi hz0 hz1 hz2 rfl (by decide) _ _ _ rfl (h3.alloc _) ⟨wr.heap.size, 0, none⟩ 1 1 [_] rfl rfl (cell_one_new _ _ _) ?_ ?_ ?_ ?_ ?_)
      all_goals first | (intro u hu; simp at hu; subst hu; rfl) | (unfold maxLen; omega) | omega | (simp; omega) | skip
      all_goals
        intro v' w1 hown hgrow _
        obtain ⟨ao', c', rfl⟩ := own_slice hown
        obtain ⟨hb1, hown1, hb2, hbel⟩ := rel_app hb0 h2 h3 hown hgrow
        have hc1 := hb1.cell 0 _ rfl
        have hf1 := hb1.free 0
        have hsz : wr.heap.size ≤ w1.heap.size := (grown_alloc_pre hgrow).size
        have HB : Hid (WK base wr (w1.setCell ⟨b, 0, none⟩ (.slice ao' (bs.length + k + 1) c'))) := hbel hs'
        clear hown hgrow h3 h2 hc hf hb1 hbel
        go_wp2
        go_roundw
        case rel =>
          refine ⟨k + 1, by omega, by go_num, by simp; omega, ⟨_, hb2, ?_⟩, hb.trans HB.out⟩
          rw [kbs_succ, ← List.append_assoc]
          first
            | (have h0 : k = 0 := by simp at *; omega
               subst h0
               rw [kb_0]
               simpa [Nat.add_assoc] using hown1)
            | (rw [kb_ne _ _ _ _ (by simp at *; omega)]
               simpa [Nat.add_assoc] using hown1)
        case measure => simp [intOf]; omega
    · have : k = 4 := by omega
      subst this
      go_wp2_with fail
      go_returns
      have hlen : (numB n.toNat).length = 4 := by have := congrArg List.length (kbs_4 n.toNat (by omega) (by omega)); simpa [kbs_len] using this.symm
      rw [show (n : Int) = (n.toNat : Int) by omega, kbs_4 n.toNat (by omega) (by omega)] at h3
      exact ⟨rfl, ⟨hb0, _, h2, by simpa [hlen] using h3⟩, hb⟩
set_option maxHeartbeats 4000000 in
set_option maxRecDepth 100000 in
theorem num3_calls (base b : Nat) (bs : List UInt8) (bad : Bool) (n : Int) (w : World) (h : WriterIs base w b bs bad) (hs : base ≤ w.heap.size) (hl : bs.length ≤ 1099511627776) (hn1 : 1073741824 ≤ n) (hn2 : n ≤ 4611686018427387903) :
    Calls Tryz.prog 58 #[.pointer (some ⟨b, 0, none⟩), .int .i64 n] w fun e w' => e = .returned (.tuple #[]) ∧ WriterIs base w' b (bs ++ numB n.toNat) bad ∧ WK base w w' := by
  have i0 := bnds_0
  have i1 := bnds_1
  have i2 := bnds_2
  go_enter Tryz.func58, Tryz.ntmps58
  go_wp2_with fail
  refine wp_loop_rounds 4 ?_
  rw [rounds_succ]
  go_wp2_with (go_at_call 133; refine (bounds_calls _).mono ?_; rintro e w' ⟨rfl, rfl⟩)
  rw [rounds_succ]
  go_wp2_with (go_at_call 133; refine (bounds_calls _).mono ?_; rintro e w' ⟨rfl, rfl⟩)
  rw [rounds_succ]
  go_wp2_with (go_at_call 133; refine (bounds_calls _).mono ?_; rintro e w' ⟨rfl, rfl⟩)
  rw [rounds_succ]
  go_wp2_with (go_at_call 133; refine (bounds_calls _).mono ?_; rintro e w' ⟨rfl, rfl⟩)
  obtain ⟨i, hi, hz0, hz1, hz2⟩ := info_parts Tryz.infoU8
  go_loopw [6, 7, 33] (fun _ _ j wr => ∃ k : Nat, k ≤ 8 ∧ j = .int .i64 k ∧ base ≤ wr.heap.size ∧ (∃ v, Blk wr b #[v, .bool bad] 221 ∧ wr.ownsRow base 5 1 v (bs.length + k) (bs.map bv ++ kbs 3 8 n k)) ∧ WK base w wr) (fun _ _ j _ => 8 - (intOf j).toNat)
  case atStart =>
    obtain ⟨h1, v, h2, h3⟩ := h
    exact ⟨0, by omega, rfl, by simp; omega, ⟨v, (((h2.alloc _).alloc _).alloc _), by simpa [kbs] using (((h3.alloc _).alloc _).alloc _)⟩, (((Keep.refl _ _ _).alloc hs _).alloc (by simp; omega) _).alloc (by simp; omega) _⟩
  case round =>
    obtain ⟨k, hk, rfl, hs', ⟨v, h2, h3⟩, hb⟩ := hrel
    obtain ⟨ao, c, rfl⟩ := own_slice h3
    have hb0 := h.1
    clear h
    have hc := h2.cell 0 _ rfl
    have hf := h2.free 0
    by_cases hlt : k < 8
    · go_wp2_with (at_builtin; refine wpList_append_own _ rfl _ _ 48 rfl base 5 i (.int .u8 0) 1 1 Tryz.underlying48 hi hz0 hz1 hz2 rfl (by decide) _ _ _ rfl (h3.alloc _) ⟨wr.heap.size, 0, none⟩ 1 1 [_] rfl rfl (cell_one_new _ _ _) ?_ ?_ ?_ ?_ ?_)
      all_goals first | (intro u hu; simp at hu; subst hu; rfl) | (unfold maxLen; omega) | omega | (simp; omega) | skip
      all_goals
        intro v' w1 hown hgrow _
        obtain ⟨ao', c', rfl⟩ := own_slice hown
        obtain ⟨hb1, hown1, hb2, hbel⟩ := rel_app hb0 h2 h3 hown hgrow
        have hc1 := hb1.cell 0 _ rfl
        have hf1 := hb1.free 0
        have hsz : wr.heap.size ≤ w1.heap.size := (grown_alloc_pre hgrow).size
        have HB : Hid (WK base wr (w1.setCell ⟨b, 0, none⟩ (.slice ao' (bs.length + k + 1) c'))) := hbel hs'
        clear hown hgrow h3 h2 hc hf hb1 hbel
        go_wp2
        go_roundw
        case rel =>
          refine ⟨k + 1, by omega, by go_num, by simp; omega, ⟨_, hb2, ?_⟩, hb.trans HB.out⟩
          rw [kbs_succ, ← List.append_assoc]
          first
            | (have h0 : k = 0 := by simp at *; omega
               subst h0
               rw [kb_0]
               simpa [Nat.add_assoc] using hown1)
            | (rw [kb_ne _ _ _ _ (by simp at *; omega)]
               simpa [Nat.add_assoc] using hown1)
        case measure => simp [intOf]; omega
    · have : k = 8 := by omega
      subst this
      go_wp2_with fail
      go_returns
      have hlen : (numB n.toNat).length = 8 := by have := congrArg List.length (kbs_8 n.toNat (by omega) (by omega)); simpa [kbs_len] using this.symm
      rw [show (n : Int) = (n.toNat : Int) by omega, kbs_8 n.toNat (by omega) (by omega)] at h3
      exact ⟨rfl, ⟨hb0, _, h2, by simpa [hlen] using h3⟩, hb⟩

/-- A number that may be written: its bytes are appended. -/
theorem num_calls (base b : Nat) (bs : List UInt8) (bad : Bool) (n : Int) (w : World) (h : WriterIs base w b bs bad) (hs : base ≤ w.heap.size) (hl : bs.length ≤ 1099511627776) (h0 : 0 ≤ n) (h1 : n ≤ 4611686018427387903) :
    Calls Tryz.prog 58 #[.pointer (some ⟨b, 0, none⟩), .int .i64 n] w fun e w' => e = .returned (.tuple #[]) ∧ WriterIs base w' b (bs ++ numB n.toNat) bad ∧ WK base w w' := by
  by_cases a : n < 64
  · exact num0_calls base b bs bad n w h hs hl h0 a
  by_cases c : n < 16384
  · exact num1_calls base b bs bad n w h hs hl (by omega) c
  by_cases d : n < 1073741824
  · exact num2_calls base b bs bad n w h hs hl (by omega) d
  · exact num3_calls base b bs bad n w h hs hl (by omega) h1
end Go.Proofs.YtjlpdbaknhbgdaaGreat
set_option linter.unusedSimpArgs false
set_option linter.unusedVariables false
namespace Go.Proofs.YtjlpdbaknhbgdaaGreat
open Go.RowKit

/-- 'string(b)' of a slice of bytes that is owned. -/
theorem conv_owned {P : Program} {base : Nat} {w : World} {v : Value} {bs : List UInt8} {src e dst : TypeId} (hs : P.underlying src = some (.slice e)) (he : P.underlying e = some (.int .u8)) (hd : P.underlying dst = some .string)
    (h : w.ownsRow base e 1 v bs.length (bs.map bv)) : (convert src dst v).run P w = .ok (.string (str bs)) w := by
  show _ = Result.ok (Value.string ⟨bs.toArray⟩) w
  rcases h.2 with ⟨rfl, h0⟩ | ⟨g, cap, cur, rfl, _, hg, _, _, _, htk⟩
  · obtain rfl : bs = [] := List.eq_nil_of_length_eq_zero h0
    rw [run_convert_bytes_string w src dst e none 0 0 hs he hd]
    simp [Conv.bytesToString]
    rfl
  · refine run_convert_bytes_back w src dst e ⟨g, 0, none⟩ cap bs hs he hd fun j hj => ?_
    exact h.cells (g := g) rfl j _ (by simp [bv, hj])

theorem endOk_calls (base b : Nat) (bs : List UInt8) (w : World) (h : WriterIs base w b bs false) :
    Calls Tryz.prog 62 #[.pointer (some ⟨b, 0, none⟩)] w fun e w' => e = .returned (.tuple #[.string (str bs), .int .i64 0]) ∧ w = w' := by
  obtain ⟨h1, v, h2, h3⟩ := h
  have hk := conv_owned Tryz.underlying48 Tryz.underlying5 Tryz.underlying9 h3
  obtain ⟨ao, c, rfl⟩ := own_slice h3
  have hc0 := h2.cell 0 _ rfl
  have hc1 := h2.cell 1 _ rfl
  go_enter Tryz.func62, Tryz.ntmps62
  go_wp2
  go_returns
  exact ⟨rfl, rfl⟩
/-- What a store of the new slice into the writer's field leaves. -/
theorem put_field {base b B : Nat} {w w1 : World} {v v' : Value} {bad : Bool} {n n' : Nat} {xs ys : List Value} (hb : base ≤ b) (h2 : Blk w b #[v, .bool bad] 221) (h3 : w.ownsRow base 5 1 v n xs)
    (h4 : w1.ownsRow base 5 1 v' n' ys) (hg : w.grownBy w1 v.ownBlock) (hs : base ≤ w.heap.size) :
    Blk w1 b #[v, .bool bad] 221 ∧ (w1.setCell ⟨b, 0, none⟩ v').ownsRow base 5 1 v' n' ys ∧ Blk (w1.setCell ⟨b, 0, none⟩ v') b #[v', .bool bad] 221 ∧ WK base w (w1.setCell ⟨b, 0, none⟩ v') := by
  have hb1 : Blk w1 b #[v, .bool bad] 221 := h2.grown hg (fun e => own_ne h3 h2 (by decide) e.symm)
  refine ⟨hb1, ownsRow_setCell_other h4 (own_ne h4 hb1 (by decide)) _, by simpa using hb1.set 0 v', ?_⟩
  exact ⟨((Below.refl base w).grown hg hs (fun k hk => (h3.lt k hk).1)).setCell hb _, ((Typed.refl _ _).grown h3 (by decide) hg).set hb1 (by decide) 0 _⟩

set_option maxHeartbeats 4000000 in
set_option maxRecDepth 100000 in
theorem hash_calls (base b : Nat) (bs hs : List UInt8) (bad : Bool) (w : World) (h : WriterIs base w b bs bad) (hsz : base ≤ w.heap.size) (hl : bs.length ≤ 1099511627776) (hh : hs.length = 32) :
    Calls Tryz.prog 57 #[.pointer (some ⟨b, 0, none⟩), .agg (hs.map bv).toArray] w fun e w' => e = .returned (.tuple #[]) ∧ WriterIs base w' b (bs ++ hs) bad ∧ WK base w w' := by
  obtain ⟨hb0, v, h2, h3⟩ := h
  obtain ⟨ao, c, rfl⟩ := own_slice h3
  have hbox : Blk (w.alloc (.cells (hs.map bv).toArray 23)) w.heap.size (hs.map bv).toArray 23 := Blk.new _ _ _
  obtain ⟨W, hW⟩ : ∃ W, W = w.alloc (.cells (hs.map bv).toArray 23) := ⟨_, rfl⟩
  have h2' : Blk W b #[.slice ao bs.length c, .bool bad] 221 := by rw [hW]; exact h2.alloc _
  have h3' : W.drew.ownsRow base 5 1 (.slice ao bs.length c) bs.length (bs.map bv) := by rw [hW]; exact (h3.alloc _).drew
  have hbel0 : WK base w W := by rw [hW]; exact (Keep.refl _ _ _).alloc hsz _
  have hWs : W.heap.size = w.heap.size + 1 := by rw [hW]; simp
  rw [← hW] at hbox
  have HWs := Lib.hid hWs
  have hc := h2'.cell 0 _ rfl
  have hf := h2'.free 0
  have HH := Lib.hid hh
  have HN : Hid (∀ j u, (hs.map bv)[j]? = some u → W.drew.cell? ((⟨w.heap.size, 0, none⟩ : Addr).add j) = some u) := by
    intro j u hu
    rw [Addr.add_lit, Nat.zero_add]
    exact hbox.cell j u (by simpa using hu)
  have HO := Lib.hid h3'
  have H3 := Lib.hid h3'
  have HB : Hid (base ≤ W.drew.heap.size) := by show base ≤ W.heap.size; omega
  have HL1 : Hid ((hs.map bv).length = 32 * 1) := by show (hs.map bv).length = 32 * 1; simp [hh]
  have HL2 : Hid (bs.length + 32 ≤ maxLen) := by show _ ≤ maxLen; unfold maxLen; omega
  have HL3 : Hid ((bs.length + 32) * 1 ≤ 140737488355328) := by show _ ≤ _; omega
  obtain ⟨i, hi, hz0, hz1, hz2⟩ := info_parts Tryz.infoU8
  go_enter Tryz.func57, Tryz.ntmps57
  go_wp2_with fail
  simp only [← hW]
  have HW := Lib.hid hW
  clear hW hWs h3' hh
  go_region_law (refine step_append_lies _ rfl (.tmp 10) (.tmp 11) 48 rfl base 5 i (.int .u8 0) 1 1 Tryz.underlying48 hi hz0 hz1 hz2 rfl (by decide) (.slice ao bs.length c) bs.length (bs.map bv) (by simp [Act.eval, Act.put]) HO.out ⟨w.heap.size, 0, none⟩ 32 32 (hs.map bv) (by simp [Act.eval, Act.put]) HL1.out HN.out (bv_one hs) (by decide) HL2.out HL3.out HB.out _ rfl ?_; intro g cap w1 hown hgrow hat hlt; obtain ⟨hb1, hown1, hb2, hbel⟩ := put_field (B := 0) hb0 h2'.drew H3.out hown hgrow HB.out; have HBel := Lib.hid hbel; have hc1 := hb1.cell 0 _ rfl; have hf1 := hb1.free 0; clear hown hgrow hat hlt hb1 hbel)
  all_goals
    go_wp2
    go_returns
    refine ⟨rfl, ⟨hb0, _, hb2, ?_⟩, hbel0.trans ?_⟩
    · rw [List.map_append, List.length_append, HH.out]
      exact hown1
    · exact ⟨⟨HBel.out.1.os, HBel.out.1.tape, HBel.out.1.output, HBel.out.1.size, HBel.out.1.block⟩, HBel.out.2⟩
end Go.Proofs.YtjlpdbaknhbgdaaGreat
set_option linter.unusedSimpArgs false
set_option linter.unusedVariables false
namespace Go.Proofs.YtjlpdbaknhbgdaaGreat
open Go.RowKit

theorem numB_arm0 (n : Int) (h0 : 0 ≤ n) (h1 : n < 64) : (numB n.toNat).length = 1 ∧ [Value.int .u8 (n)] = (numB n.toNat).map bv := by
  unfold numB
  rw [if_pos (by omega)]
  refine ⟨rfl, ?_⟩
  simp only [List.map_cons, List.map_nil]
  congr 1
  exact bv_ofNat _ (by omega) _ (by omega)
theorem refNum0 (n : Int) (w : World) (h0 : 0 ≤ n) (h1 : n < 64) :
    Calls Tryz.prog 160 #[.int .i64 n] w fun e w' => e = .returned (.string (str (numB n.toNat))) ∧ Below w.heap.size w w' := by
  have HN := Lib.hid (numB_arm0 n h0 h1)
  go_enter Tryz.func160, Tryz.ntmps160
  go_wp2_with ((with_reducible show wpList _ _ _ (⟨some 10, _, _, _, _, _⟩ :: _) _ _); refine wpList_convBlk rfl 48 9 5 _ rfl Tryz.underlying48 Tryz.underlying5 Tryz.underlying9 w.heap.size 1 1 (by rfl) _ _ (Blk.new _ _ _) (numB n.toNat) HN.out.1 HN.out.2 ?_)
  go_returns
  exact ⟨rfl, (Below.refl _ _).alloc (Nat.le_refl _) _⟩
theorem numB_arm1 (n : Int) (h0 : 64 ≤ n) (h1 : n < 16384) : (numB n.toNat).length = 2 ∧ [Value.int .u8 (64 + n / 256), Value.int .u8 (n % 256)] = (numB n.toNat).map bv := by
  unfold numB
  rw [if_neg (by omega), if_pos (by omega)]
  refine ⟨rfl, ?_⟩
  simp only [List.map_cons, List.map_nil]
  congr 1
  · exact bv_ofNat _ (by omega) _ (by omega)
  congr 1
  exact bv_ofNat _ (by omega) _ (by omega)
theorem refNum1 (n : Int) (w : World) (h0 : 64 ≤ n) (h1 : n < 16384) :
    Calls Tryz.prog 160 #[.int .i64 n] w fun e w' => e = .returned (.string (str (numB n.toNat))) ∧ Below w.heap.size w w' := by
  have HN := Lib.hid (numB_arm1 n h0 h1)
  go_enter Tryz.func160, Tryz.ntmps160
  go_wp2_with ((with_reducible show wpList _ _ _ (⟨some 21, _, _, _, _, _⟩ :: _) _ _); refine wpList_convBlk rfl 48 9 5 _ rfl Tryz.underlying48 Tryz.underlying5 Tryz.underlying9 w.heap.size 2 2 (by rfl) _ _ (Blk.new _ _ _) (numB n.toNat) HN.out.1 HN.out.2 ?_)
  go_returns
  exact ⟨rfl, (Below.refl _ _).alloc (Nat.le_refl _) _⟩
theorem numB_arm2 (n : Int) (h0 : 16384 ≤ n) (h1 : n < 1073741824) : (numB n.toNat).length = 4 ∧ [Value.int .u8 (128 + n / 16777216), Value.int .u8 (n / 65536 % 256), Value.int .u8 (n / 256 % 256), Value.int .u8 (n % 256)] = (numB n.toNat).map bv := by
  unfold numB
  rw [if_neg (by omega), if_neg (by omega), if_pos (by omega)]
  refine ⟨rfl, ?_⟩
  simp only [List.map_cons, List.map_nil]
  congr 1
  · exact bv_ofNat _ (by omega) _ (by omega)
  congr 1
  · exact bv_ofNat _ (by omega) _ (by omega)
  congr 1
  · exact bv_ofNat _ (by omega) _ (by omega)
  congr 1
  exact bv_ofNat _ (by omega) _ (by omega)
theorem refNum2 (n : Int) (w : World) (h0 : 16384 ≤ n) (h1 : n < 1073741824) :
    Calls Tryz.prog 160 #[.int .i64 n] w fun e w' => e = .returned (.string (str (numB n.toNat))) ∧ Below w.heap.size w w' := by
  have HN := Lib.hid (numB_arm2 n h0 h1)
  go_enter Tryz.func160, Tryz.ntmps160
  go_wp2_with ((with_reducible show wpList _ _ _ (⟨some 40, _, _, _, _, _⟩ :: _) _ _); refine wpList_convBlk rfl 48 9 5 _ rfl Tryz.underlying48 Tryz.underlying5 Tryz.underlying9 w.heap.size 4 4 (by rfl) _ _ (Blk.new _ _ _) (numB n.toNat) HN.out.1 HN.out.2 ?_)
  go_returns
  exact ⟨rfl, (Below.refl _ _).alloc (Nat.le_refl _) _⟩
theorem numB_arm3 (n : Int) (h0 : 1073741824 ≤ n) (h1 : n ≤ 4611686018427387903) : (numB n.toNat).length = 8 ∧ [Value.int .u8 (n / 256 / 256 / 256 / 256 / 256 / 256 / 256 % 256 + 192), Value.int .u8 (n / 256 / 256 / 256 / 256 / 256 / 256 % 256), Value.int .u8 (n / 256 / 256 / 256 / 256 / 256 % 256), Value.int .u8 (n / 256 / 256 / 256 / 256 % 256), Value.int .u8 (n / 256 / 256 / 256 % 256), Value.int .u8 (n / 256 / 256 % 256), Value.int .u8 (n / 256 % 256), Value.int .u8 (n % 256)] = (numB n.toNat).map bv := by
  unfold numB
  rw [if_neg (by omega), if_neg (by omega), if_neg (by omega)]
  refine ⟨rfl, ?_⟩
  simp only [List.map_cons, List.map_nil]
  congr 1
  · exact bv_ofNat _ (by omega) _ (by omega)
  congr 1
  · exact bv_ofNat _ (by omega) _ (by omega)
  congr 1
  · exact bv_ofNat _ (by omega) _ (by omega)
  congr 1
  · exact bv_ofNat _ (by omega) _ (by omega)
  congr 1
  · exact bv_ofNat _ (by omega) _ (by omega)
  congr 1
  · exact bv_ofNat _ (by omega) _ (by omega)
  congr 1
  · exact bv_ofNat _ (by omega) _ (by omega)
  congr 1
  exact bv_ofNat _ (by omega) _ (by omega)
set_option maxHeartbeats 4000000 in
set_option maxRecDepth 100000 in
theorem refNum3 (n : Int) (w : World) (h0 : 1073741824 ≤ n) (h1 : n ≤ 4611686018427387903) :
    Calls Tryz.prog 160 #[.int .i64 n] w fun e w' => e = .returned (.string (str (numB n.toNat))) ∧ Below w.heap.size w w' := by
  have HN := Lib.hid (numB_arm3 n h0 h1)
  go_enter Tryz.func160, Tryz.ntmps160
  go_wp2
  refine wp_loop_rounds 9 ?_
  repeat any_goals (rw [rounds_succ]; go_wp2_with ((with_reducible show wpList _ _ _ (⟨some 57, _, _, _, _, _⟩ :: _) _ _); refine wpList_convBlk rfl 48 9 5 _ rfl Tryz.underlying48 Tryz.underlying5 Tryz.underlying9 w.heap.size 8 8 (by rfl) _ _ (Blk.new _ _ _) (numB n.toNat) HN.out.1 HN.out.2 ?_))
  go_returns
  exact ⟨rfl, (Below.refl _ _).alloc (Nat.le_refl _) _⟩

/-- The document's bytes of a number. -/
theorem RefNum_calls (n : Int) (w : World) (h0 : 0 ≤ n) (h1 : n ≤ 4611686018427387903) :
    Calls Tryz.prog 160 #[.int .i64 n] w fun e w' => e = .returned (.string (str (numB n.toNat))) ∧ Below w.heap.size w w' := by
  by_cases a : n < 64
  · exact refNum0 n w h0 a
  by_cases c : n < 16384
  · exact refNum1 n w (by omega) c
  by_cases d : n < 1073741824
  · exact refNum2 n w (by omega) d
  · exact refNum3 n w (by omega) h1
end Go.Proofs.YtjlpdbaknhbgdaaGreat
set_option linter.unusedSimpArgs false
set_option linter.unusedVariables false
namespace Go.Proofs.YtjlpdbaknhbgdaaGreat
open Go.RowKit

set_option maxHeartbeats 1000000 in
theorem textOk_calls (base b : Nat) (bs : List UInt8) (bad : Bool) (s : List UInt8) (w : World) (h : WriterIs base w b bs bad) (hs : base ≤ w.heap.size) (hl : bs.length ≤ 549755813888) (hn : s.length ≤ 65536) :
    Calls Tryz.prog 59 #[.pointer (some ⟨b, 0, none⟩), .string (str s)] w fun e w' => e = .returned (.tuple #[]) ∧ WriterIs base w' b (bs ++ numB s.length ++ s) bad ∧ WK base w w' := by
  have hb0 := h.1
  go_enter Tryz.func59, Tryz.ntmps59
  go_wp2_with fail
  refine (num_calls base b bs bad _ _ h hs (by omega) (by omega) (by omega)).mono ?_
  rintro e w1 ⟨rfl, hw1, hbel1⟩
  rw [Int.toNat_natCast] at hw1
  have hnl := numB_len s.length
  have hbl : (bs ++ numB s.length).length ≤ 1099511627776 := by simp; omega
  generalize hB : bs ++ numB s.length = bs1 at hw1 hbl
  have HB := Lib.hid hB
  clear hB hnl h
  obtain ⟨_, v1, h2, h3⟩ := hw1
  obtain ⟨ao, c, rfl⟩ := own_slice h3
  have hc := h2.cell 0 _ rfl
  have hf := h2.free 0
  have hs1 : base ≤ w1.heap.size := Nat.le_trans hs hbel1.size
  obtain ⟨i, hi, hz0, hz1, hz2⟩ := info_parts Tryz.infoU8
  go_wp2_with (at_builtin; refine Lib.wpList_append_own_string (w := w1) rfl _ _ 48 9 rfl base 5 i Tryz.underlying48 Tryz.underlying9 hi hz0 hz1 hz2 _ _ _ rfl h3 _ rfl ?_ ?_ hs1 ?_)
  · rw [str_size]; unfold maxLen; omega
  · rw [str_size]; omega
  intro v' w2 hown hgrow _
  obtain ⟨ao', c', rfl⟩ := own_slice hown
  obtain ⟨hb1, hown1, hb2, hbel⟩ := put_field (B := 0) hb0 h2 h3 hown hgrow hs1
  have hc1 := hb1.cell 0 _ rfl
  have hf1 := hb1.free 0
  clear hown hgrow h3 h2 hc hf hb1
  have HBel := Lib.hid (hbel1.trans hbel)
  clear hbel
  go_wp2
  go_returns
  refine ⟨rfl, ⟨hb0, _, hb2, ?_⟩, HBel.out⟩
  rw [HB.out, List.map_append, List.length_append]
  exact hown1

end Go.Proofs.YtjlpdbaknhbgdaaGreat
set_option linter.unusedSimpArgs false
set_option linter.unusedVariables false
namespace Go.Proofs.YtjlpdbaknhbgdaaGreat
open Go.RowKit

theorem RefText_calls (l : List UInt8) (w : World) (h1 : l.length ≤ 1099511627776) :
    Calls Tryz.prog 111 #[.string (str l)] w fun e w' => e = .returned (.string (str (numB l.length ++ l))) ∧ Below w.heap.size w w' := by
  go_enter Tryz.func111, Tryz.ntmps111
  go_wp2_with fail
  refine (RefNum_calls _ _ (by omega) (by omega)).mono ?_
  rintro e w1 ⟨rfl, hb⟩
  rw [Int.toNat_natCast]
  have hl := numB_len l.length
  generalize hx : numB l.length = x at hl ⊢
  have HX := Lib.hid hx
  clear hx
  go_wp2
  go_returns
  rw [HX.out]
  exact ⟨rfl, hb⟩

theorem RefHash_calls (l : List UInt8) (w : World) (hl : l.length = 32) :
    Calls Tryz.prog 175 #[.agg (l.map bv).toArray] w fun e w' => e = .returned (.string (str l)) ∧ Below w.heap.size w w' := by
  have HL := Lib.hid hl
  clear hl
  go_enter Tryz.func175, Tryz.ntmps175
  go_wp2_with ((with_reducible show wpList _ _ _ (⟨some 4, _, _, _, _, _⟩ :: _) _ _); refine wpList_convBlk rfl 48 9 5 _ rfl Tryz.underlying48 Tryz.underlying5 Tryz.underlying9 w.heap.size 32 32 (by rfl) _ _ (Blk.new _ _ _) l HL.out (by rw [List.take_of_length_le (by simp [HL.out])]) ?_)
  go_returns
  exact ⟨rfl, (Below.refl _ _).alloc (Nat.le_refl _) _⟩

end Go.Proofs.YtjlpdbaknhbgdaaGreat
