/-
  ppr: Look with a nil book.
  append to a slice of seeds that was cut ('l[:i:i]'), twice, as taking a place does.
-/
import Derived.Test.YtjlpdbaknhbgdaaGreatPprWalk
set_option linter.unusedSimpArgs false
set_option linter.unusedVariables false
namespace Go.Proofs.YtjlpdbaknhbgdaaGreat
open Go.RowKit

def zh32 : List UInt8 := List.replicate 32 0
/-- What a row looks up: a key and an error's number. -/
def lookT (B : Nat) (p : Int) (l : List Sd) : List UInt8 × Int :=
  if withinT B p then match findT B p.toNat l with
    | none => (zh32, 10)
    | some i => match l[i]? with
      | none => (zh32, 10)
      | some s => (keyT (stK B p.toNat s (B - s.lv)).1.h, 0)
  else (zh32, 1)
theorem lookT_len (B : Nat) (p : Int) (l : List Sd) : (lookT B p l).1.length = 32 := by
  unfold lookT
  split
  · split
    · rfl
    · split
      · rfl
      · exact keyT_len _
  · rfl
def RowOk (B : Nat) (l : List Sd) : Prop := (∀ s ∈ l, s.lv ≤ B ∧ s.pl < 2 ^ s.lv) ∧ l.length ≤ 1000000
theorem findT_lt {B p : Nat} {l : List Sd} {i : Nat} (h : findT B p l = some i) : ∃ s, l[i]? = some s := by
  rw [findT, List.findIdx?_eq_some_iff_getElem] at h
  obtain ⟨h1, _⟩ := h
  exact ⟨l[i], List.getElem?_eq_getElem h1⟩

set_option maxHeartbeats 4000000 in
set_option maxRecDepth 100000 in
theorem Look_calls (r B : Nat) (p : Int) (l : List Sd) (w : World) (h : RowAt w r B l) (hB : B ≤ 32) (hok : RowOk B l) (hp1 : -9223372036854775808 ≤ p) (hp2 : p ≤ 9223372036854775807) :
    Calls Tryz.prog 48 #[.pointer (some ⟨r, 0, none⟩), .pointer none, .int .i64 p] w fun e w' => e = .returned (.tuple #[.agg ((lookT B p l).1.map bv).toArray, .int .i64 (lookT B p l).2]) ∧ Below w.heap.size w w' := by
  have hpow : (2 ^ B : Nat) ≤ 2 ^ 32 := Nat.pow_le_pow_right (by omega) hB
  have hZ0 := Blk.new w Z32 23
  have hb0 := below_alloc1 w (.cells Z32 23)
  have HR := Lib.hid (h.below hb0)
  have hlv : ∀ s ∈ l, s.lv ≤ B := fun s hs => (hok.1 s hs).1
  clear h
  by_cases hw : withinT B p = true
  · have hw2 : 0 ≤ p ∧ p < ((2 ^ B : Nat) : Int) := by simpa [withinT] using hw
    obtain ⟨q, rfl⟩ : ∃ q : Nat, p = q := ⟨p.toNat, by omega⟩
    have hq : q < 4294967296 := by omega
    have hqt : (q : Int).toNat = q := rfl
    cases hf : findT B q l with
    | none =>
      have hlk : lookT B q l = (zh32, 10) := by rw [lookT, if_pos hw, hqt, hf]
      have HLK := Lib.hid hlk
      clear hlk
      go_enter Tryz.func48, Tryz.ntmps48
      go_wp2_with fail
      generalize w.alloc (.cells Z32 23) = W0 at hZ0 hb0 HR ⊢
      refine (within_calls r B l _ _ HR.out hB (by omega) (by omega)).mono ?_
      rintro e w1 ⟨rfl, b1⟩
      rw [hw]
      have hR1 := Lib.hid (HR.out.below b1)
      have hZ1 := hZ0.below b1 hZ0.lt
      have hb1 := hb0.trans (b1.mono hb0.size)
      clear b1 hZ0 hb0 HR
      go_wp2_with fail
      refine (find_calls r B q l _ hR1.out hB hlv hok.2 hq).mono ?_
      rintro e w2 ⟨rfl, b2⟩
      rw [hf]
      have hZ2 := hZ1.below b2 hZ1.lt
      have hb2 := hb1.trans (b2.mono hb1.size)
      clear b2 hZ1 hb1 hR1
      go_wp2_with (first | ((with_reducible show wpList _ _ _ (⟨some 16, _, _, _, _, _⟩ :: _) _ _); refine wpList_buildCells rfl 23 #[] rfl Z32 (by kernel_rfl) ?_) | ((with_reducible show wpList _ _ _ (⟨some 25, _, _, _, _, _⟩ :: _) _ _); refine wpList_buildCells rfl 23 #[] rfl Z32 (by kernel_rfl) ?_) | ((with_reducible show wpList _ _ _ (⟨none, Op.store _ (.tmp 6) _, _, _, _, _⟩ :: _) _ _); refine wpList_storeBlk rfl 23 (.tmp 6) _ rfl w.heap.size Z32 (by rfl) (by rfl) _ _ hZ2 Tryz.sizeHash rfl Z32_all ?_; intro wz hZz gz))
      refine ret_blk2 rfl w.heap.size _ _ _ (by rfl) hZz Tryz.underlying23 rfl Tryz.sizeHash rfl ?_
      rw [HLK.out]
      exact ⟨rfl, hb2.trans (grown_below gz (Nat.le_refl _) hb2.size)⟩
    | some i =>
      obtain ⟨s, hs⟩ := findT_lt hf
      have hsm := hok.1 s (List.mem_of_getElem? hs)
      have hilt : i < l.length := (List.getElem?_eq_some_iff.1 hs).1
      have hi6 : i < 1000000 := by have := hok.2; omega
      obtain ⟨kk, hkk⟩ : ∃ k, k = keyT (stK B q s (B - s.lv)).1.h := ⟨_, rfl⟩
      have HKK : Hid (kk.length = 32) := by show _ = _; rw [hkk]; exact keyT_len _
      have hlk : lookT B q l = (kk, 0) := by rw [lookT, if_pos hw, hqt, hf]; simp only [hs]; rw [hkk]
      have c3 : ∀ y, RowAt y r B l → Calls Tryz.prog 70 #[.pointer (some ⟨r, 0, none⟩), .pointer none, .int .i64 i, .int .i64 q] y fun e w' => ∃ v, e = .returned (.tuple #[.agg (kk.map bv).toArray, v]) ∧ Below y.heap.size y w' := fun y hy => by
        rw [hkk]
        exact (walk_calls r B q i l s y hy hs hB hsm.1 hsm.2 hq hi6).mono fun e w' ⟨v, h1, _, h3⟩ => ⟨v, h1, h3⟩
      have HLK := Lib.hid hlk
      clear hlk hkk
      go_enter Tryz.func48, Tryz.ntmps48
      go_wp2_with fail
      generalize w.alloc (.cells Z32 23) = W0 at hZ0 hb0 HR ⊢
      refine (within_calls r B l _ _ HR.out hB (by omega) (by omega)).mono ?_
      rintro e w1 ⟨rfl, b1⟩
      rw [hw]
      have hR1 := Lib.hid (HR.out.below b1)
      have hZ1 := hZ0.below b1 hZ0.lt
      have hb1 := hb0.trans (b1.mono hb0.size)
      clear b1 hZ0 hb0 HR
      go_wp2_with fail
      refine (find_calls r B q l _ hR1.out hB hlv hok.2 hq).mono ?_
      rintro e w2 ⟨rfl, b2⟩
      rw [hf]
      have hR2 := Lib.hid (hR1.out.below b2)
      have hZ2 := hZ1.below b2 hZ1.lt
      have hb2 := hb1.trans (b2.mono hb1.size)
      clear b2 hZ1 hb1 hR1 hs hf
      go_wp2_with fail
      refine (c3 _ hR2.out).mono ?_
      rintro e w3 ⟨v, rfl, b3⟩
      have hZ3 := (hZ2.below b3 hZ2.lt).alloc (.cells Z32 23)
      have hb3 := hb2.trans (b3.mono hb2.size)
      have hN := Blk.new w3 Z32 23
      have hb4 := hb3.alloc hb3.size (.cells Z32 23)
      have hs3 : w.heap.size < w3.heap.size := (hZ2.below b3 hZ2.lt).lt
      clear b3 hZ2 hb2 hR2 c3
      go_wp2_with (first | ((with_reducible show wpList _ _ _ (⟨none, Op.store _ (.tmp 10) _, _, _, _, _⟩ :: _) _ _); refine wpList_storeBlk rfl 23 (.tmp 10) (.tmp 32) rfl w3.heap.size (kk.map bv).toArray (by rfl) (by rfl) _ _ hN (by rw [bv_size, HKK.out]; exact Tryz.sizeHash) (by rw [bv_size, HKK.out, Z32_size]) (bv_all _) ?_; intro w4 hK4 g4; have hZ4 := hZ3.grown g4 (by simp; omega); have hb5 := below_new hb4 g4 (by omega) hb4.size; clear hN hZ3 hb4 g4) | ((with_reducible show wpList _ _ _ (⟨some 34, _, _, _, _, _⟩ :: _) _ _); refine wpList_loadBlk rfl 23 (.tmp 10) rfl w3.heap.size (by rfl) _ _ _ hK4 Tryz.underlying23 rfl (by rw [bv_size, HKK.out]; exact Tryz.sizeHash) ?_) | ((with_reducible show wpList _ _ _ (⟨none, Op.store _ (.tmp 6) _, _, _, _, _⟩ :: _) _ _); refine wpList_storeBlk rfl 23 (.tmp 6) (.tmp 34) rfl w.heap.size (kk.map bv).toArray (by rfl) (by rfl) _ _ hZ4 (by rw [bv_size, HKK.out]; exact Tryz.sizeHash) (by rw [bv_size, HKK.out, Z32_size]) (bv_all _) ?_; intro w5 hZ5 g5))
      refine ret_blk2 rfl w.heap.size _ _ _ (by rfl) hZ5 Tryz.underlying23 rfl (by rw [bv_size, HKK.out]; exact Tryz.sizeHash) rfl ?_
      rw [HLK.out]
      exact ⟨rfl, hb5.trans (grown_below g5 (Nat.le_refl _) hb5.size)⟩
  · have hw2 : withinT B p = false := by simpa using hw
    have hlk : lookT B p l = (zh32, 1) := by rw [lookT, if_neg hw]
    have HLK := Lib.hid hlk
    clear hlk hw
    go_enter Tryz.func48, Tryz.ntmps48
    go_wp2_with fail
    generalize w.alloc (.cells Z32 23) = W0 at hZ0 hb0 HR ⊢
    refine (within_calls r B l _ _ HR.out hB hp1 hp2).mono ?_
    rintro e w1 ⟨rfl, b1⟩
    rw [hw2]
    have hZ1 := hZ0.below b1 hZ0.lt
    have hb1 := hb0.trans (b1.mono hb0.size)
    clear b1 hZ0 hb0 HR
    go_wp2_with (first | ((with_reducible show wpList _ _ _ (⟨some 16, _, _, _, _, _⟩ :: _) _ _); refine wpList_buildCells rfl 23 #[] rfl Z32 (by kernel_rfl) ?_) | ((with_reducible show wpList _ _ _ (⟨some 25, _, _, _, _, _⟩ :: _) _ _); refine wpList_buildCells rfl 23 #[] rfl Z32 (by kernel_rfl) ?_) | ((with_reducible show wpList _ _ _ (⟨none, Op.store _ (.tmp 6) _, _, _, _, _⟩ :: _) _ _); refine wpList_storeBlk rfl 23 (.tmp 6) _ rfl w.heap.size Z32 (by rfl) (by rfl) _ _ hZ1 Tryz.sizeHash rfl Z32_all ?_; intro wz hZz gz))
    refine ret_blk2 rfl w.heap.size _ _ _ (by rfl) hZz Tryz.underlying23 rfl Tryz.sizeHash rfl ?_
    rw [HLK.out]
    exact ⟨rfl, hb1.trans (grown_below gz (Nat.le_refl _) hb1.size)⟩
end Go.Proofs.YtjlpdbaknhbgdaaGreat
set_option linter.unusedSimpArgs false
set_option linter.unusedVariables false
namespace Go.Proofs.YtjlpdbaknhbgdaaGreat
open Go.RowKit

theorem below_grown0 {w w' : World} (h : w.grownBy w' none) : Below w.heap.size w w' := ⟨h.os, h.tape, h.output, h.size, fun k hk => h.block k hk (by simp)⟩
/-- What the first append leaves: the cut itself, or a new row. -/
def CutSt (base : Nat) (w' : World) (g i : Nat) (X : List Sd) (v : Value) (Y : List Sd) : Prop :=
  (v = .slice (some ⟨g, 0, none⟩) i i ∧ Y = X) ∨ w'.ownsRow base 227 34 v Y.length (Y.flatMap Sd.cells)
theorem CutSt.below {base : Nat} {w w' : World} {g i : Nat} {X Y : List Sd} {v : Value} (h : CutSt base w g i X v Y) (b : Below w.heap.size w w') : CutSt base w' g i X v Y := by
  rcases h with h | h
  · exact .inl h
  · exact .inr (own_below h b)

theorem run_append_cut (w : World) (ty : TypeId) (g i : Nat) (X : List Sd) (hX : X.length = i) (h32 : ∀ s ∈ X, s.h.length = 32) (hcell : ∀ j u, (X.flatMap Sd.cells)[j]? = some u → w.cell? ⟨g, j, none⟩ = some u)
    (ad : Addr) (c : Nat) (D : List Sd) (hD32 : ∀ s ∈ D, s.h.length = 32) (hnews : ∀ j u, (D.flatMap Sd.cells)[j]? = some u → w.cell? (ad.add j) = some u) (hb : i + D.length ≤ 4000000) :
    ∃ v' w', (Builtin.append_ #[154, 154] ty #[.slice (some ⟨g, 0, none⟩) i i, .slice (some ad) D.length c]).run Tryz.prog w = .ok v' w' ∧ Below w.heap.size w w' ∧ CutSt w.heap.size w' g i X v' (X ++ D) := by
  obtain ⟨i0, hi0, hz, hsz, hby⟩ := info_parts Tryz.infoSeed
  by_cases hm : D.length = 0
  · obtain rfl : D = [] := List.eq_nil_of_length_eq_zero hm
    have h := run_append_room_cells (P := Tryz.prog) w 154 ty 227 i0 Tryz.underlying154 hi0 g 0 i i ad 0 c [] (by simp) (by simp) (by simp) (by omega) (by simp) (by simp)
    refine ⟨_, _, h, ?_, ?_⟩
    · exact Below.refl _ _
    · rw [List.append_nil]; exact .inl ⟨rfl, rfl⟩
  · obtain ⟨v', w', h1, h2, h3⟩ := run_append_arg_grows (P := Tryz.prog) w 154 ty 227 i0 (.agg z34.toArray) 34 48 Tryz.underlying154 hi0 hz hsz hby rfl (by decide) ⟨g, 0, none⟩ i i (X.flatMap Sd.cells) (by rw [seeds_cells_len X h32, hX]) (fun j u hj => by rw [Addr.add_lit, Nat.zero_add]; exact hcell j u hj)
      ad D.length c (D.flatMap Sd.cells) (seeds_cells_len D hD32) hnews (by omega) (by unfold maxLen; omega) (by omega)
    rw [← List.flatMap_append] at h2
    exact ⟨v', w', h1, below_grown0 h3, .inr (by rw [List.length_append, hX]; exact h2)⟩

/-- The first append: seeds that lie anywhere. -/
theorem wp_append_cut1 {o : Oper} {a : Act} {w : World} {K : Act → World → Prop} {Q : Exit → Act → World → Prop} (s x : Operand)
    (ho : o.op = .call { callee := .builtin .append, args := #[s, x], argTypes := #[154, 154] }) (g i : Nat) (X R : List Sd) (vb : Value) (hs : a.eval s = .slice (some ⟨g, 0, none⟩) i i) (hx : a.eval x = vb)
    (hX : X.length = i) (h32 : ∀ s ∈ X, s.h.length = 32) (hcell : ∀ j u, (X.flatMap Sd.cells)[j]? = some u → w.cell? ⟨g, j, none⟩ = some u) (hR : SeedsAt w vb R) (hb : i + R.length ≤ 4000000)
    (h : ∀ v' w', Below w.heap.size w w' → CutSt w.heap.size w' g i X v' (X ++ R) → K (a.put o.dst v') w') : o.wp Tryz.prog a w K Q := by
  rcases hR.2 with ⟨rfl, rfl⟩ | ⟨gr, c, rfl, hc, hlt, hcr⟩
  · obtain ⟨i0, hi0, hz, hsz, hby⟩ := info_parts Tryz.infoSeed
    have hrun : (Builtin.append_ #[154, 154] o.type #[.slice (some ⟨g, 0, none⟩) i i, .slice none 0 0]).run Tryz.prog w = .ok (.slice (some ⟨g, 0, none⟩) i i) w := by
      simp [Builtin.append_, run_underlying Tryz.underlying154, sizeOf, typeInfo, hi0, Builtin.lenOf, Builtin.firstCells, storeCells]
    unfold Oper.wp
    simp [execOp, ho, resolve, invoke, builtin, hs, hx, hrun, Result.andThen]
    exact h _ _ (Below.refl _ _) (.inl ⟨rfl, by simp⟩)
  · obtain ⟨v', w', h1, h2, h3⟩ := run_append_cut w o.type g i X hX h32 hcell ⟨gr, 0, none⟩ c R hR.1 (fun j u hj => by rw [Addr.add_lit, Nat.zero_add]; exact hcr j u hj) hb
    unfold Oper.wp
    simp [execOp, ho, resolve, invoke, builtin, hs, hx, h1, Result.andThen]
    exact h _ _ h2 h3

/-- The second append. -/
theorem wp_append_cut2 {o : Oper} {a : Act} {w0 w : World} {K : Act → World → Prop} {Q : Exit → Act → World → Prop} (s x : Operand)
    (ho : o.op = .call { callee := .builtin .append, args := #[s, x], argTypes := #[154, 154] }) (g i : Nat) (X Y D : List Sd) (v : Value) (ad : Addr) (c : Nat) (hs : a.eval s = v) (hx : a.eval x = .slice (some ad) D.length c)
    (hX : X.length = i) (h32 : ∀ s ∈ X, s.h.length = 32) (hcell : ∀ j u, (X.flatMap Sd.cells)[j]? = some u → w.cell? ⟨g, j, none⟩ = some u) (hg : g < w.heap.size)
    (hst : CutSt w0.heap.size w g i X v Y) (hY32 : ∀ s ∈ Y, s.h.length = 32) (hD32 : ∀ s ∈ D, s.h.length = 32) (hnews : ∀ j u, (D.flatMap Sd.cells)[j]? = some u → w.cell? (ad.add j) = some u)
    (hb1 : i + D.length ≤ 4000000) (hb2 : Y.length + D.length ≤ 4000000) (hb0 : Below w0.heap.size w0 w)
    (h : ∀ v' w', Below w0.heap.size w0 w' → SeedsAt w' v' (Y ++ D) → (∀ q, v'.ownBlock = some q → q = g ∨ w0.heap.size ≤ q) → K (a.put o.dst v') w') : o.wp Tryz.prog a w K Q := by
  have hall : ∀ s ∈ Y ++ D, s.h.length = 32 := fun s hs => by
    rcases List.mem_append.1 hs with h1 | h1
    · exact hY32 s h1
    · exact hD32 s h1
  rcases hst with ⟨rfl, rfl⟩ | hown
  · obtain ⟨v', w', h1, h2, h3⟩ := run_append_cut w o.type g i Y hX h32 hcell ad c D hD32 hnews hb1
    unfold Oper.wp
    simp [execOp, ho, resolve, invoke, builtin, hs, hx, h1, Result.andThen]
    refine h _ _ (hb0.trans (h2.mono hb0.size)) ?_ ?_
    · rcases h3 with ⟨rfl, he⟩ | h3
      · rw [he]
        refine ⟨hY32, .inr ⟨g, i, by rw [hX], by omega, Nat.lt_of_lt_of_le hg h2.size, fun j u hj => ?_⟩⟩
        rw [h2.cell (p := ⟨g, j, none⟩) hg]; exact hcell j u hj
      · exact SeedsAt.own h3 hall rfl
    · rcases h3 with ⟨rfl, he⟩ | h3
      · intro q hq; simp [Value.ownBlock] at hq; exact .inl hq.symm
      · intro q hq; exact .inr (Nat.le_trans hb0.size (h3.lt q hq).1)
  · obtain ⟨i0, hi0, hz, hsz, hby⟩ := info_parts Tryz.infoSeed
    refine wp_append_own w s x 154 ho w0.heap.size 227 i0 (.agg z34.toArray) 34 48 Tryz.underlying154 hi0 hz hsz hby rfl (by decide) v _ _ hs hown ad D.length c (D.flatMap Sd.cells) hx (seeds_cells_len D hD32) hnews (seeds_cells_one D) (by unfold maxLen; omega) (by omega) hb0.size fun v' w' h2 h3 _ => ?_
    rw [← List.flatMap_append] at h2
    exact h v' w' (hb0.grown h3 hb0.size (fun q e => (hown.lt q e).1)) (SeedsAt.own h2 hall (by simp)) (fun q hq => .inr (h2.lt q hq).1)
end Go.Proofs.YtjlpdbaknhbgdaaGreat
