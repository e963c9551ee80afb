/-
  ppr: Unpack: any bytes are a row, or refused.
-/
import Derived.Test.YtnfegmcdljejnaaPprUnLaw
set_option linter.unusedSimpArgs false
set_option linter.unusedVariables false
namespace Go.Proofs.Ytnfegmcdljejnaa
open Go.RowKit

/-- A store of some cells into the midst of a block known whole. -/
theorem run_storeV {P : Program} {w : World} {g off : Nat} {ty t : TypeId} {cs A B C vs : List Value} {u : Value} (hg : Blk w g cs.toArray t) (hl : cs = A ++ (B ++ C)) (hoff : A.length = off) (hB : B.length = vs.length) (hu : u.cells = vs.toArray) (h1 : ∀ x ∈ vs, x.oneCell' = true) (hi : (P.info? ty).map (·.size) = some vs.length) :
    (storeVar ty ⟨g, off, none⟩ u).run P w = .ok () (w.setRow g (A ++ (vs ++ C)).toArray) := by
  have hfit : off + 0 + vs.length ≤ cs.toArray.size := by rw [hl]; simp; omega
  have hr := run_storeCells_at (P := P) g off t vs 0 cs.toArray w hg hfit h1
  have e : (cs.toArray.toList.take (off + 0) ++ vs ++ cs.toArray.toList.drop (off + 0 + vs.length)) = A ++ (vs ++ C) := by
    rw [hl]
    subst hoff
    have e1 : (A ++ (B ++ C)).take (A.length + 0) = A := by rw [Nat.add_zero, List.take_left]
    have e2 : (A ++ (B ++ C)).drop (A.length + 0 + vs.length) = C := by
      rw [← List.append_assoc, show A.length + 0 + vs.length = (A ++ B).length by simp [hB], List.drop_left]
    show List.take _ (A ++ (B ++ C)) ++ _ ++ List.drop _ (A ++ (B ++ C)) = _
    rw [e1, e2]
    simp
  rw [e] at hr
  cases hq : P.info? ty with
  | none => simp [hq] at hi
  | some it =>
    have hs1 : it.size = vs.length := by simpa [hq] using hi
    simp [storeVar, sizeOf, typeInfo, hq, hu, hs1, hr]
theorem wpList_storeV {P : Program} {ops : Array Oper} {rest : List Oper} {o : Oper} {a : Act} {w : World} {Q : Exit → Act → World → Prop} (hgd : o.guard = none) (ty : TypeId) (x y : Operand) (ho : o.op = .store ty x y)
    (g off : Nat) (u : Value) (hx : a.eval x = .pointer (some ⟨g, off, none⟩)) (hy : a.eval y = u) (t : TypeId) (cs A B C vs : List Value) (hg : Blk w g cs.toArray t) (hl : cs = A ++ (B ++ C)) (hoff : A.length = off) (hB : B.length = vs.length) (hu : u.cells = vs.toArray) (h1 : ∀ x ∈ vs, x.oneCell' = true) (hi : (P.info? ty).map (·.size) = some vs.length)
    (h : ∀ w', Blk w' g (A ++ (vs ++ C)).toArray t → w.grownBy w' (some g) → wpList P ops Q rest (a.put o.dst undef) w') : wpList P ops Q (o :: rest) a w := by
  refine wpList_plain hgd fun K hK => ?_
  have hr := run_storeV (P := P) hg hl hoff hB hu h1 hi
  unfold Oper.wp execOp
  simp only [ho, hx, hy, Instr.storeAt, Instr.sureAddr, Sem.run_bind, Sem.run_pure, Result.andThen_ok, hr]
  exact hK _ _ (h _ (hg.setRow _) (grown_row _ _ _))
theorem wp_storeV {P : Program} {o : Oper} {a : Act} {w : World} {K : Act → World → Prop} {Q : Exit → Act → World → Prop} (ty : TypeId) (x y : Operand) (ho : o.op = .store ty x y)
    (g off : Nat) (u : Value) (hx : a.eval x = .pointer (some ⟨g, off, none⟩)) (hy : a.eval y = u) (t : TypeId) (cs A B C vs : List Value) (hg : Blk w g cs.toArray t) (hl : cs = A ++ (B ++ C)) (hoff : A.length = off) (hB : B.length = vs.length) (hu : u.cells = vs.toArray) (h1 : ∀ x ∈ vs, x.oneCell' = true) (hi : (P.info? ty).map (·.size) = some vs.length)
    (h : ∀ w', Blk w' g (A ++ (vs ++ C)).toArray t → w.grownBy w' (some g) → K (a.put o.dst undef) w') : o.wp P a w K Q := by
  have hr := run_storeV (P := P) hg hl hoff hB hu h1 hi
  unfold Oper.wp execOp
  simp only [ho, hx, hy, Instr.storeAt, Instr.sureAddr, Sem.run_bind, Sem.run_pure, Result.andThen_ok, hr]
  exact h _ (hg.setRow _) (grown_row _ _ _)
theorem Try.sizeIntU : (Try.prog.info? 3).map (·.size) = some 1 := by kernel_rfl
theorem Try.sizeSeedsU : (Try.prog.info? 139).map (·.size) = some 1 := by kernel_rfl
theorem Try.zeroRowU : (Try.prog.info? 141).bind (·.zero) = some (.agg #[.int .i64 0, .slice none 0 0]) := by kernel_rfl
/-- The cells of a seed whose digest is not read yet. -/
abbrev z32v : List Value := (List.replicate 32 (0 : UInt8)).map bv
theorem Try.builtSeedLv (n : Int) : Try.prog.built 138 [(0, .int .i64 n)] = some (.int .i64 n :: .int .i64 0 :: z32v).toArray := by kernel_rfl
theorem sdz_all (n m : Int) : (Value.int .i64 n :: .int .i64 m :: z32v).toArray.all (·.oneCell') = true := by kernel_rfl
theorem Try.builtRowU (B : Int) : Try.prog.built 141 [(0, .int .i64 B)] = some #[.int .i64 B, .slice none 0 0] := by kernel_rfl

/-- A row of seeds of one's own, in a Row of one's own. -/
def RowOwn (w : World) (base r B : Nat) (v : Value) (l : List Sd) : Prop := Blk w r #[.int .i64 B, v] 141 ∧ w.ownsRow base 138 34 v l.length (l.flatMap Sd.cells)
theorem RowOwn.kept {w w' : World} {base r B : Nat} {v : Value} {l : List Sd} {M : Nat} (h : RowOwn w base r B v l) (gr : w.grownBy w' (some M)) (h1 : r ≠ M) (h2 : ∀ q, v.ownBlock = some q → q ≠ M) : RowOwn w' base r B v l :=
  ⟨h.1.grown gr (by simpa using h1), h.2.kept gr (.inr (fun e => h2 M e rfl))⟩
theorem RowOwn.alloc {w : World} {base r B : Nat} {v : Value} {l : List Sd} (h : RowOwn w base r B v l) (o : Obj) : RowOwn (w.alloc o) base r B v l := ⟨h.1.alloc o, h.2.alloc o⟩
theorem RowOwn.lt {w : World} {base r B : Nat} {v : Value} {l : List Sd} (h : RowOwn w base r B v l) : r < w.heap.size := h.1.lt
theorem RowOwn.own {w : World} {base r B : Nat} {v : Value} {l : List Sd} (h : RowOwn w base r B v l) : ∀ q, v.ownBlock = some q → base ≤ q ∧ q < w.heap.size := fun q hq => h.2.lt q hq
theorem RowOwn.drew {w : World} {base r B : Nat} {v : Value} {l : List Sd} (h : RowOwn w base r B v l) : RowOwn w.drew base r B v l := ⟨h.1.drew, h.2.drew⟩
theorem RowOwn.at {w : World} {base r B : Nat} {v : Value} {l : List Sd} (h : RowOwn w base r B v l) (hl : ∀ s ∈ l, s.h.length = 32) : RowAt w r B l := ⟨v, h.1, SeedsAt.own h.2 hl rfl⟩
theorem reader_lt {w : World} {b : Nat} {s : List UInt8 × Int} (h : ReaderIs w b s) : b < w.heap.size := Blk.lt h
theorem reader_grown {w w' : World} {b M : Nat} {s : List UInt8 × Int} (h : ReaderIs w b s) (gr : w.grownBy w' (some M)) (h1 : b ≠ M) : ReaderIs w' b s := Blk.grown h gr (by simpa using h1)
theorem reader_alloc {w : World} {b : Nat} {s : List UInt8 × Int} (h : ReaderIs w b s) (o : Obj) : ReaderIs (w.alloc o) b s := Blk.alloc h o
theorem reader_drew {w : World} {b : Nat} {s : List UInt8 × Int} (h : ReaderIs w b s) : ReaderIs w.drew b s := Blk.drew h
/-- append of one seed that lies alone. -/
theorem wp_append_sd1 {o : Oper} {a : Act} {w : World} {K : Act → World → Prop} {Q : Exit → Act → World → Prop} (s x : Operand)
    (ho : o.op = .call { callee := .builtin .append, args := #[s, x], argTypes := #[139, 139] }) (base : Nat) (v : Value) (L : List Sd) (sd : Sd) (hs : a.eval s = v) (g : Nat) (hx : a.eval x = .slice (some ⟨g, 0, none⟩) 1 1)
    (hown : w.ownsRow base 138 34 v L.length (L.flatMap Sd.cells)) (hg : Blk w g sd.cells.toArray 138) (h32 : sd.h.length = 32) (hb1 : L.length ≤ 1000000) (hbase : base ≤ w.heap.size)
    (h : ∀ v' w', w'.ownsRow base 138 34 v' (L ++ [sd]).length ((L ++ [sd]).flatMap Sd.cells) → w.grownBy w' v.ownBlock → K (a.put o.dst v') w') : o.wp Try.prog a w K Q := by
  obtain ⟨i, hi, hz, hsz, hby⟩ := info_parts Try.infoSeed
  have hcs : ∀ j u, sd.cells[j]? = some u → w.cell? ((⟨g, 0, none⟩ : Addr).add j) = some u := fun j u hj => by
    rw [Addr.add_lit, Nat.zero_add]
    exact hg.cell j u (by rw [List.getElem?_toArray]; exact hj)
  have e1 : (L ++ [sd]).flatMap Sd.cells = L.flatMap Sd.cells ++ sd.cells := by simp
  have e2 : (L ++ [sd]).length = L.length + 1 := by simp
  rw [e1, e2] at h
  exact wp_append_own w s x 139 ho base 138 i (.agg z34.toArray) 34 48 Try.underlying139 hi hz hsz hby rfl (by decide) v _ _ hs hown ⟨g, 0, none⟩ 1 1 sd.cells hx (sd.cells_len h32) hcs sd.cells_one (by unfold maxLen; omega) (by omega) hbase fun v' w' h2 h3 _ => h v' w' h2 h3
/-- The shift of a place to the row's foot. -/
theorem shlN (p B lv : Nat) (h : lv ≤ B) (hB : B ≤ 32) (hp : p ≤ 2 ^ lv) : Op.shift .shl .i64 (p : Int) .i64 (IntKind.i64.wrap ((B : Int) - (lv : Int))) = pure (.int .i64 ((p * 2 ^ (B - lv) : Nat) : Int)) := by
  have h1 : p * 2 ^ (B - lv) ≤ 2 ^ B := by
    calc p * 2 ^ (B - lv) ≤ 2 ^ lv * 2 ^ (B - lv) := Nat.mul_le_mul_right _ hp
      _ = 2 ^ B := by rw [← Nat.pow_add]; congr 1; omega
  have h2 : (2 ^ B : Nat) ≤ 4294967296 := Nat.pow_le_pow_right (n := 2) (by omega) hB
  obtain ⟨D, hD⟩ : ∃ D, D = B - lv := ⟨_, rfl⟩
  rw [wrapI _ (by omega) (by omega), show ((B : Int) - (lv : Int)) = (D : Int) by omega, ← hD]
  rw [← hD] at h1
  have hD2 : D ≤ 32 := by omega
  generalize hq : p * 2 ^ D = q at h1
  have : ((p : Int) * 2 ^ D) = (q : Int) := by rw [← hq]; simp
  rw [shift_shl_any .i64 .i64 (p : Int) (D : Int) (by omega), show min ((D : Int)).toNat (IntKind.bits .i64) = D by simp [IntKind.bits]; omega, this, wrapI _ (by omega) (by omega)]
theorem shlW (p B lv : Nat) (h : lv ≤ B) (hB : B ≤ 32) (hp : p ≤ 2 ^ lv) : wrap64 ((p : Int) * 2 ^ (B - lv)) = ((p * 2 ^ (B - lv) : Nat) : Int) := by
  have h1 : p * 2 ^ (B - lv) ≤ 2 ^ B := by
    calc p * 2 ^ (B - lv) ≤ 2 ^ lv * 2 ^ (B - lv) := Nat.mul_le_mul_right _ hp
      _ = 2 ^ B := by rw [← Nat.pow_add]; congr 1; omega
  have h2 : (2 ^ B : Nat) ≤ 4294967296 := Nat.pow_le_pow_right (n := 2) (by omega) hB
  have : ((p : Int) * 2 ^ (B - lv)) = ((p * 2 ^ (B - lv) : Nat) : Int) := by simp
  rw [this]
  generalize p * 2 ^ (B - lv) = q at h1
  unfold wrap64; omega
theorem shlOne (lv : Nat) (h : lv ≤ 32) : Op.shift .shl .i64 1 .i64 (lv : Int) = pure (.int .i64 ((2 ^ lv : Nat) : Int)) := by
  have := shlN 1 lv 0 (by omega) h (by simp)
  rw [wrapI _ (by omega) (by omega)] at this
  simpa using this
theorem ReaderIs.lt {w : World} {b : Nat} {s : List UInt8 × Int} (h : ReaderIs w b s) : b < w.heap.size := Blk.lt h
theorem ReaderIs.below {w w' : World} {b : Nat} {s : List UInt8 × Int} (h : ReaderIs w b s) (bl : Below w.heap.size w w') : ReaderIs w' b s := Blk.below h bl (Blk.lt h)
theorem ReaderIs.grownB {w w' : World} {b M : Nat} {s : List UInt8 × Int} (h : ReaderIs w b s) (gr : w.grownBy w' (some M)) (h1 : b ≠ M) : ReaderIs w' b s := Blk.grown h gr (by simpa using h1)
theorem RowOwn.below {w w' : World} {base r B : Nat} {v : Value} {l : List Sd} (h : RowOwn w base r B v l) (bl : Below w.heap.size w w') : RowOwn w' base r B v l := ⟨h.1.below bl h.1.lt, own_below h.2 bl⟩
theorem grown_pre_drewN {w w' : World} {r : Option Nat} {n : Nat} (h : (w.drewN n).grownBy w' r) : w.grownBy w' r := ⟨h.os, h.tape, h.output, h.size, h.block⟩
theorem ReaderIs.grownO {w w' : World} {b : Nat} {row : Option Nat} {s : List UInt8 × Int} (h : ReaderIs w b s) (gr : w.grownBy w' row) (h1 : ∀ q, row = some q → b ≠ q) : ReaderIs w' b s := Blk.grown h gr (fun e => h1 b e.symm rfl)
theorem wp_bsOneN {P : Program} {o : Oper} {a : Act} {w : World} {K : Act → World → Prop} {Q : Exit → Act → World → Prop} (t e : TypeId) (x : Operand) (ho : o.op = .buildSlice t 1 #[(0, x)])
    (cs : Array Value) (hx : a.eval x = .agg cs) (hu : P.underlying t = some (.slice e)) (z : Value) (n : Nat) (hz : (P.info? e).map (fun i => (i.zero, i.size)) = some (some z, n)) (hn : cs.size = n) (h0 : 0 < n) (hb : n ≤ 16777216)
    (h : ∀ g w', g = w.heap.size → w'.heap.size = g + 1 → Below w.heap.size w w' → Blk w' g cs e → K (a.put o.dst (.slice (some ⟨g, 0, none⟩) 1 1)) w') : o.wp P a w K Q :=
  wp_bsOne t e x ho cs hx hu z n hz hn h0 hb (h _ _ rfl (by simp) (below_alloc1 _ _) (Blk.new _ _ _))
theorem UnpackBad_calls (bs : List UInt8) (B : Int) (w : World) (h1 : B < 1 ∨ 32 < B) :
    Calls Try.prog 80 #[.string (str bs), .int .i64 B] w fun e w' => e = .returned (.tuple #[.pointer none, .int .i64 1]) ∧ Below w.heap.size w w' := by
  by_cases h2 : B < 1
  · clear h1
    go_enter Try.func80, Try.ntmps80
    go_wp2_with fail
    go_returns
    exact ⟨rfl, Below.refl _ _⟩
  · have h3 : 32 < B := by omega
    clear h1
    go_enter Try.func80, Try.ntmps80
    go_wp2_with fail
    go_returns
    exact ⟨rfl, Below.refl _ _⟩
set_option maxHeartbeats 4000000 in
set_option maxRecDepth 100000 in
theorem Unpack_calls (bs : List UInt8) (B : Nat) (w : World) (hB1 : 1 ≤ B) (hB2 : B ≤ 32) (hbs : bs.length ≤ 1000000) :
    Calls Try.prog 80 #[.string (str bs), .int .i64 B] w fun e w' => ∃ p, e = .returned (.tuple #[p, .int .i64 (rEnd (upT B bs).s)]) ∧ ((rEnd (upT B bs).s = 0 ∧ ∃ r, p = .pointer (some ⟨r, 0, none⟩) ∧ w.heap.size ≤ r ∧ RowAt w' r B (upT B bs).l) ∨ (rEnd (upT B bs).s ≠ 0 ∧ p = .pointer none)) ∧ Below w.heap.size w w' := by
  have hupN := upN_le bs
  obtain ⟨n, hn⟩ : ∃ n, n = upN bs := ⟨_, rfl⟩
  rw [← hn] at hupN
  have HUP : Hid (upT B bs = upAt B (up0 bs) n) := by show _ = _; rw [hn]; rfl
  have HL0 : Hid ((up0 bs).s.1.length ≤ 1099511627776) := by show _ ≤ _; have h9 := rNum_len 65536 (bs, 0); show (rNum 65536 (bs, 0)).2.1.length ≤ _; simp only at h9; omega
  have hok := upT_ok B bs
  have HOK := Lib.hid hok
  obtain ⟨X, hX⟩ : ∃ X, X = upT B bs := ⟨_, rfl⟩
  rw [← hX] at HUP HOK ⊢
  have hnle : n ≤ 65536 := hupN.1
  have c0 : ∀ R y, ReaderIs y R (bs, 0) → Calls Try.prog 122 #[.pointer (some ⟨R, 0, none⟩), .int .i64 65536] y fun e w' => e = .returned (.int .i64 (n : Nat)) ∧ ReaderIs w' R (up0 bs).s ∧ y.grownBy w' (some R) := fun R y hy => by
    have h9 := RNum_calls R (bs, 0) 65536 y hy (by simp only; omega)
    rw [← hupN.2] at h9
    exact h9
  obtain ⟨u0, hu0⟩ : ∃ u, u = up0 bs := ⟨_, rfl⟩
  have hu1 : u0.l = [] := by rw [hu0]; rfl
  have hu2 : u0.e = 0 := by rw [hu0]; rfl
  rw [← hu0] at HUP HL0 c0
  obtain ⟨UA, hUA⟩ : ∃ f, f = upAt B u0 := ⟨_, rfl⟩
  rw [← hUA] at HUP
  have HUA := Lib.hid hUA
  clear hX hok hu0 hn hupN hUA
  go_enter Try.func80, Try.ntmps80
  go_wp2_with fail
  refine (From_calls bs _).mono ?_
  rintro e w1 ⟨rfl, hR1, b1⟩
  obtain ⟨R, hRe⟩ : ∃ R, R = w.heap.size := ⟨_, rfl⟩
  have hRw : w.heap.size ≤ R := by omega
  rw [← hRe] at hR1 ⊢
  have hR1l := hR1.lt
  have HR1 := Lib.hid hR1
  clear hR1 hRe
  have hr0 := Blk.new w1 #[.int .i64 B, .slice none 0 0] 141
  have hR2 := reader_alloc HR1.out (.cells #[.int .i64 B, .slice none 0 0] 141)
  have hb2 := b1.alloc b1.size (.cells #[.int .i64 B, .slice none 0 0] 141)
  have hw1s := b1.size
  go_wp2_with ((with_reducible show wpList _ _ _ (⟨some 21, _, _, _, _, _⟩ :: _) _ _); refine wpList_buildCells rfl 141 #[(0, .tmp 20)] rfl #[.int .i64 B, .slice none 0 0] (Try.builtRowU _) ?_)
  obtain ⟨W2, hW2⟩ : ∃ W, W = w1.alloc (.cells #[.int .i64 B, .slice none 0 0] 141) := ⟨_, rfl⟩
  obtain ⟨r, hre⟩ : ∃ r, r = w1.heap.size := ⟨_, rfl⟩
  rw [← hW2] at hr0 hR2 hb2 ⊢
  rw [← hre] at hr0 hR1l hw1s ⊢
  clear hW2 hre HR1 b1
  refine (c0 R _ hR2).mono ?_
  rintro e w3 ⟨rfl, hR3, g3⟩
  have hr3 := hr0.grown g3 (by simp; omega)
  have hb3 := Lib.hid (hb2.grown g3 hb2.size (fun q e => by cases e; exact hRw))
  have HR3 := Lib.hid hR3
  have HO3 := Lib.hid (⟨hr3, World.ownsRow_nil _ _ _ _⟩ : RowOwn w3 (r + 1) r B (.slice none 0 0) [])
  clear hR3 hr3 g3 hr0 hR2 hb2 c0
  go_wp2_with fail
  go_loopw [8, 9] (fun z i wr => ∃ (k m : Nat) (x : Up) (v : Value), k + m = n ∧ z = .int .i64 (x.e : Nat) ∧ i = .int .i64 (m : Nat) ∧ Hid (x = UA k) ∧ Hid (ReaderIs wr R x.s) ∧ Hid (RowOwn wr (r + 1) r B v x.l) ∧ Hid (Below w.heap.size w wr) ∧ Hid (x.s.1.length ≤ 1099511627776)) (fun _ i _ => (intOf i).toNat)
  case atStart => exact ⟨0, n, u0, _, by omega, by rw [hu2]; rfl, rfl, by show _ = _; rw [HUA.out]; rfl, HR3, by rw [hu1]; exact HO3, hb3, HL0⟩
  case round =>
    obtain ⟨k, m, ⟨L, E, S⟩, v, hkm, rfl, rfl, HX, hR, hO, hB, HL⟩ := hrel
    obtain ⟨sl, se⟩ := S
    clear HR3 HO3 hb3 HL0
    have hRr : R < r := hR1l
    have HQ : Hid (∀ q, v.ownBlock = some q → r + 1 ≤ q) := fun q hq => (hO.out.own q hq).1
    have HQ2 : Hid (∀ q, v.ownBlock = some q → q < wr.heap.size) := fun q hq => (hO.out.own q hq).2
    have hlok := upAt_ok B u0 hu1 k
    rw [← HUA.out, ← HX.out] at hlok
    have HL32 : Hid (∀ s ∈ L, s.h.length = 32) := fun s hs => (hlok.1 s hs).2.2
    have hLl : L.length ≤ 1000000 := by have := hlok.2.1; simp only at this; omega
    clear hlok
    by_cases hm : m = 0
    · subst hm
      have hfin : Hid (X = ⟨L, E, (sl, se)⟩) := by show _ = _; rw [HUP.out, HX.out, show k = n by omega]
      clear HX HUP HUA
      go_wp2_with fail
      refine (REnd_calls R _ _ hR.out).mono ?_
      rintro e we ⟨rfl, rfl⟩
      obtain ⟨E9, hE9⟩ : ∃ E9, E9 = rEnd (sl, se) := ⟨_, rfl⟩
      rw [← hE9]
      have hf2 : Hid (rEnd X.s = E9) := by show _ = _; rw [hfin.out, hE9]
      have hXl : Hid (X.l = L) := by show _ = _; rw [hfin.out]
      clear hE9 hfin HOK
      by_cases h9 : E9 = 0
      · subst h9
        go_wp2_with fail
        go_returns
        exact ⟨.pointer (some ⟨r, 0, none⟩), by rw [hf2.out]; rfl, .inl ⟨hf2.out, r, rfl, by omega, by rw [hXl.out]; exact hO.out.at HL32.out⟩, hB.out⟩
      · have h9e : (E9 == 0) = false := by simp [h9]
        go_wp2_with fail
        go_returns
        exact ⟨.pointer none, by rw [hf2.out]; rfl, .inr ⟨by rw [hf2.out]; exact h9, rfl⟩, hB.out⟩
    · by_cases hse : se = 0
      · subst hse
        obtain ⟨m, rfl⟩ : ∃ m', m = m' + 1 := ⟨m - 1, by omega⟩
        clear hm
        obtain ⟨lv, s1, ha, hl1, _⟩ := rNum_nat (sl, 0)
        have c1 : ∀ y, ReaderIs y R (sl, 0) → Calls Try.prog 122 #[.pointer (some ⟨R, 0, none⟩), .int .i64 4611686018427387903] y fun e w' => e = .returned (.int .i64 (lv : Nat)) ∧ ReaderIs w' R s1 ∧ y.grownBy w' (some R) := fun y hy => by have h9 := RNum_calls R (sl, 0) maxN y hy HL.out; rw [ha] at h9; exact h9
        have hl1 : s1.1.length ≤ sl.length := hl1
        have hL9 : sl.length ≤ 1099511627776 := HL.out
        by_cases hlv : lv ≤ B
        · obtain ⟨pl, s2, hb, hl2, _⟩ := rNum_nat s1
          have c2 : ∀ y, ReaderIs y R s1 → Calls Try.prog 122 #[.pointer (some ⟨R, 0, none⟩), .int .i64 4611686018427387903] y fun e w' => e = .returned (.int .i64 (pl : Nat)) ∧ ReaderIs w' R s2 ∧ y.grownBy w' (some R) := fun y hy => by have h9 := RNum_calls R s1 maxN y hy (by omega); rw [hb] at h9; exact h9
          obtain ⟨s2l, e2⟩ := s2
          have hl2 : s2l.length ≤ s1.1.length := hl2
          have hpw : 2 ^ lv ≤ 4294967296 := Nat.pow_le_pow_right (n := 2) (by decide) (show lv ≤ 32 by omega)
          by_cases he2 : e2 = 0
          · subst he2
            obtain ⟨P1, hP1⟩ : ∃ P, P = 2 ^ lv := ⟨_, rfl⟩
            have hsh1 := shlOne lv (by omega)
            have hw1 : wrap64 ((2 : Int) ^ lv) = (P1 : Int) := by
              have : ((2 : Int) ^ lv) = ((2 ^ lv : Nat) : Int) := by simp
              rw [this, ← hP1]
              unfold wrap64; omega
            rw [← hP1] at hsh1
            have HP1 := Lib.hid hP1
            have HSH1 := Lib.hid hsh1
            have HW1 := Lib.hid hw1
            have HPW := Lib.hid hpw
            clear hsh1 hw1 hpw
            by_cases hc1 : pl < P1
            · have hsh2 := shlW pl B lv hlv hB2 (by rw [← hP1]; exact Nat.le_of_lt hc1)
              obtain ⟨Q2, hQ2⟩ : ∃ Q, Q = pl * 2 ^ (B - lv) := ⟨_, rfl⟩
              rw [← hQ2] at hsh2
              have HQ2e := Lib.hid hQ2
              have HSH2 := Lib.hid hsh2
              clear hsh2
              by_cases hc2 : Q2 < E
              · have cE : ∀ y, ReaderIs y R (s2l, 0) → Calls Try.prog 123 #[.pointer (some ⟨R, 0, none⟩)] y fun e w' => e = .returned (.int .i64 0) ∧ y = w' := fun y hy => Err_calls R _ y hy
                have cF2 : ∀ y, ReaderIs y R (s2l, 0) → Calls Try.prog 124 #[.pointer (some ⟨R, 0, none⟩), .int .i64 3] y fun e w' => e = .returned (.tuple #[]) ∧ ReaderIs w' R (s2l, 3) ∧ y.grownBy w' (some R) := fun y hy => Fail_calls R (s2l, 0) 3 y hy
                obtain ⟨h, s3, hd⟩ : ∃ h s3, rHash (s2l, 3) = (h, s3) := ⟨_, _, rfl⟩
                have hl3 : s3.1.length ≤ (s2l, 3).1.length := by have := rHash_left (s2l, 3); rw [hd] at this; exact this
                have HH : Hid (h.length = 32) := by have := rHash_len (s2l, 3); rw [hd] at this; exact this
                have c3 : ∀ y, ReaderIs y R (s2l, 3) → Calls Try.prog 125 #[.pointer (some ⟨R, 0, none⟩)] y fun e w' => e = .returned (.agg (h.map bv).toArray) ∧ ReaderIs w' R s3 ∧ y.grownBy w' (some R) := fun y hy => by have h9 := RHash_calls R (s2l, 3) y hy (by show s2l.length ≤ _; omega); rw [hd] at h9; exact h9
                obtain ⟨s3l, e3⟩ := s3
                have hl3 : s3l.length ≤ s2l.length := hl3
                have he3 : e3 ≠ 0 := by have := rHash_err (s2l, 3) (show (3 : Int) ≠ 0 by decide); rw [hd] at this; exact this
                have hx := HX.out
                rw [HUA.out] at hx
                have hup := up_next hx rfl
                rw [upStep_eq B ⟨L, E, (sl, 0)⟩ lv pl s1 _ _ _ _ h ha (by rw [if_neg (by omega)]) hb (by rw [if_pos ⟨rfl, .inr (by rw [← HQ2e.out]; exact hc2)⟩]; rfl) hd, if_neg he3] at hup
                have HL3 : Hid (s3l.length ≤ 1099511627776) := by show s3l.length ≤ _; omega
                have cE3 : ∀ y, ReaderIs y R (s3l, e3) → Calls Try.prog 123 #[.pointer (some ⟨R, 0, none⟩)] y fun e w' => e = .returned (.int .i64 e3) ∧ y = w' := fun y hy => Err_calls R _ y hy
                have hez3 : (e3 == 0) = false := by simp [he3]
                rw [← HUA.out] at hup
                have hup := Lib.hid hup
                clear hx HX ha hd hl3 he3 hl1 hl2 hL9
                clear hb
                have hB1 := hB.out
                clear hB
                have cE0 : ∀ y, ReaderIs y R (sl, 0) → Calls Try.prog 123 #[.pointer (some ⟨R, 0, none⟩)] y fun e w' => e = .returned (.int .i64 0) ∧ y = w' := fun y hy => Err_calls R _ y hy
                go_wp2_with fail
                refine (cE0 _ hR.out).mono ?_
                rintro e we ⟨rfl, rfl⟩
                clear cE0
                go_wp2_with fail
                have ltq212 : R < wr.heap.size := hR.out.lt
                have ltq213 : r < wr.heap.size := hO.out.lt
                refine (c1 _ hR.out).mono ?_
                rintro e wq209 ⟨rfl, hRq210, gq211⟩
                have szq214 := gq211.size
                have hCq215 := Lib.hid (hO.out.kept gq211 (by omega) (fun q hq => by have := HQ.out q hq; have := HQ2.out q hq; omega))
                have hBq216 := hB1.grown gq211 hB1.size (fun q e => by cases e; omega)
                have hHq217 := Lib.hid hRq210
                clear hRq210 hO hB1 hR gq211
                go_wp2_with (first | ((with_reducible show wpList _ _ _ (⟨some 36, _, _, _, _, _⟩ :: _) _ _); refine wpList_buildCells rfl 138 #[(0, .tmp 35)] rfl (((Value.int .i64 (lv : Nat) :: .int .i64 0 :: z32v)).toArray) (Try.builtSeedLv _) ?_) | ((with_reducible show wpList _ _ _ (⟨some 10, _, _, _, _, _⟩ :: _) _ _); refine wpList_allocZ rfl 138 rfl _ Try.zeroSeed ?_; intro wq218 hsq219 baq220 hNq221) | ((with_reducible show wpList _ _ _ (⟨none, Op.store _ (.tmp 10) _, _, _, _, _⟩ :: _) _ _); refine wpList_storeBlk rfl 138 (.tmp 10) (.tmp 36) rfl (wq209.heap.size) (((Value.int .i64 (lv : Nat) :: .int .i64 0 :: z32v)).toArray) (by rfl) (by rfl) _ _ hNq221 (by kernel_rfl) (by rfl) (sdz_all _ _) ?_; intro wq222 hKq223 gq224; have bbq225 := below_new baq220 gq224 (Nat.le_refl _) baq220.size; have ltq226 : R < wq209.heap.size := hHq217.out.lt; have ltq227 : r < wq209.heap.size := hCq215.out.lt; have hCq228 := Lib.hid (hHq217.out.below bbq225); have hCq229 := Lib.hid (hCq215.out.below bbq225); have hBq230 := hBq216.trans (bbq225.mono hBq216.size); clear hHq217 hCq215 hBq216; clear bbq225 baq220 hNq221 gq224 hsq219; have hc0 := hKq223.cell 0 (.int .i64 (lv : Nat)) rfl))
                clear hc0
                have ltq234 : R < wq222.heap.size := hCq228.out.lt
                have ltq235 : r < wq222.heap.size := hCq229.out.lt
                have ltq236 : wq209.heap.size < wq222.heap.size := hKq223.lt
                refine (c2 _ hCq228.out).mono ?_
                rintro e wq231 ⟨rfl, hRq232, gq233⟩
                have szq237 := gq233.size
                have hCq238 := Lib.hid (hCq229.out.kept gq233 (by omega) (fun q hq => by have := HQ.out q hq; have := HQ2.out q hq; omega))
                have hCq239 := hKq223.grown gq233 (by simp; omega)
                have hBq240 := hBq230.grown gq233 hBq230.size (fun q e => by cases e; omega)
                have hHq241 := Lib.hid hRq232
                clear hRq232 hCq229 hKq223 hBq230 hCq228 gq233
                go_wp2_with ((with_reducible show wpList _ _ _ (⟨none, Op.store _ (.tmp 45) _, _, _, _, _⟩ :: _) _ _); refine wpList_storeV rfl 3 (.tmp 45) (.tmp 44) rfl (wq209.heap.size) 1 (.int .i64 (pl : Nat)) (by rfl) (by rfl) _ (Value.int .i64 (lv : Nat) :: .int .i64 0 :: z32v) [.int .i64 (lv : Nat)] [.int .i64 0] z32v [.int .i64 (pl : Nat)] hCq239 (by rfl) (by rfl) (by rfl) (by rfl) (fun x hx => by rw [List.mem_singleton.1 hx]; rfl) (Try.sizeIntU) ?_; intro wq242 hSq243 gq244; have ltq245 : R < wq231.heap.size := hHq241.out.lt; have ltq246 : r < wq231.heap.size := hCq238.out.lt; have ltq247 : wq209.heap.size < wq231.heap.size := hCq239.lt; have hCq248 := Lib.hid (hHq241.out.grownB gq244 (by omega)); have hCq249 := Lib.hid (hCq238.out.kept gq244 (by omega) (fun q hq => by have := HQ.out q hq; have := HQ2.out q hq; omega)); have hBq250 := hBq240.grown gq244 hBq240.size (fun q e => by cases e; omega); clear hHq241 hCq238 hBq240 hCq239 gq244)
                have hd0 := hSq243.cell 0 (.int .i64 (lv : Nat)) rfl
                have hd1 := hSq243.cell 1 (.int .i64 (pl : Nat)) rfl
                simp only [Act.put, List.setIfInBounds_toArray, List.set_cons_succ, List.set_cons_zero]
                have hdc1 : decide (wrap64 ((2 : Int) ^ lv) ≤ (pl : Int)) = false := by rw [HW1.out]; simp; omega
                have hdc3 : decide (wrap64 ((pl : Int) * 2 ^ (B - lv)) < (E : Int)) = true := by rw [HSH2.out]; simp; omega
                go_big_quiet ((go_at_call 123; exact quiet_calls (cE _ (Blk.drewN hCq248.out _))))
                clear hd0 hd1 hdc1 hdc3
                go_wp2_with fail
                have ltq254 : R < wq242.heap.size := hCq248.out.lt
                have ltq255 : r < wq242.heap.size := hCq249.out.lt
                have ltq256 : wq209.heap.size < wq242.heap.size := hSq243.lt
                refine (cF2 _ (Blk.drewN hCq248.out _)).mono ?_
                rintro e wq251 ⟨rfl, hRq252, gq253⟩
                have gq253 := grown_pre_drewN gq253
                have szq257 := gq253.size
                have hCq258 := Lib.hid (hCq249.out.kept gq253 (by omega) (fun q hq => by have := HQ.out q hq; have := HQ2.out q hq; omega))
                have hCq259 := hSq243.grown gq253 (by simp; omega)
                have hBq260 := hBq250.grown gq253 hBq250.size (fun q e => by cases e; omega)
                have hHq261 := Lib.hid hRq252
                clear hRq252 hCq249 hSq243 hBq250 hCq248 gq253
                go_wp2_with fail
                have ltq265 : R < wq251.heap.size := hHq261.out.lt
                have ltq266 : r < wq251.heap.size := hCq258.out.lt
                have ltq267 : wq209.heap.size < wq251.heap.size := hCq259.lt
                refine (c3 _ hHq261.out).mono ?_
                rintro e wq262 ⟨rfl, hRq263, gq264⟩
                have szq268 := gq264.size
                have hCq269 := Lib.hid (hCq258.out.kept gq264 (by omega) (fun q hq => by have := HQ.out q hq; have := HQ2.out q hq; omega))
                have hCq270 := hCq259.grown gq264 (by simp; omega)
                have hBq271 := hBq260.grown gq264 hBq260.size (fun q e => by cases e; omega)
                have hHq272 := Lib.hid hRq263
                clear hRq263 hCq258 hCq259 hBq260 hHq261 gq264
                go_wp2_with ((with_reducible show wpList _ _ _ (⟨none, Op.store _ (.tmp 72) _, _, _, _, _⟩ :: _) _ _); refine wpList_storeV rfl 23 (.tmp 72) (.tmp 71) rfl (wq209.heap.size) 2 (.agg (h.map bv).toArray) (by rfl) (by rfl) _ (.int .i64 (lv : Nat) :: .int .i64 (pl : Nat) :: z32v) [.int .i64 (lv : Nat), .int .i64 (pl : Nat)] z32v [] (h.map bv) hCq270 (by rfl) (by rfl) (by show 32 = _; rw [List.length_map, HH.out]) (by rfl) (bv_one h) (by rw [List.length_map, HH.out]; exact Try.sizeHash) ?_; intro wq273 hSq274 gq275; have ltq276 : R < wq262.heap.size := hHq272.out.lt; have ltq277 : r < wq262.heap.size := hCq269.out.lt; have ltq278 : wq209.heap.size < wq262.heap.size := hCq270.lt; have hCq279 := Lib.hid (hHq272.out.grownB gq275 (by omega)); have hCq280 := Lib.hid (hCq269.out.kept gq275 (by omega) (fun q hq => by have := HQ.out q hq; have := HQ2.out q hq; omega)); have hBq281 := hBq271.grown gq275 hBq271.size (fun q e => by cases e; omega); clear hHq272 hCq269 hBq271 hCq270 gq275)
                have hsd : Blk wq273 wq209.heap.size (Sd.cells ⟨lv, pl, h⟩).toArray 138 := by have h9 := hSq274; rw [List.append_nil] at h9; exact h9
                clear hSq274
                refine (cE3 _ hCq279.out).mono ?_
                rintro e we ⟨rfl, rfl⟩
                go_wp2_with fail
                go_roundw
                case rel => exact ⟨k + 1, m, ⟨L, E, (s3l, e3)⟩, v, by omega, rfl, by go_num, Lib.hid hup, hCq279, hCq280, Lib.hid hBq281, HL3⟩
                case measure => simp [intOf]
              · have cE : ∀ y, ReaderIs y R (s2l, 0) → Calls Try.prog 123 #[.pointer (some ⟨R, 0, none⟩)] y fun e w' => e = .returned (.int .i64 0) ∧ y = w' := fun y hy => Err_calls R _ y hy
                obtain ⟨h, s3, hd⟩ : ∃ h s3, rHash (s2l, 0) = (h, s3) := ⟨_, _, rfl⟩
                have hl3 : s3.1.length ≤ (s2l, 0).1.length := by have := rHash_left (s2l, 0); rw [hd] at this; exact this
                have HH : Hid (h.length = 32) := by have := rHash_len (s2l, 0); rw [hd] at this; exact this
                have c3 : ∀ y, ReaderIs y R (s2l, 0) → Calls Try.prog 125 #[.pointer (some ⟨R, 0, none⟩)] y fun e w' => e = .returned (.agg (h.map bv).toArray) ∧ ReaderIs w' R s3 ∧ y.grownBy w' (some R) := fun y hy => by have h9 := RHash_calls R (s2l, 0) y hy (by show s2l.length ≤ _; omega); rw [hd] at h9; exact h9
                obtain ⟨s3l, e3⟩ := s3
                have hl3 : s3l.length ≤ s2l.length := hl3
                by_cases he3 : e3 = 0
                · subst he3
                  have hx := HX.out
                  rw [HUA.out] at hx
                  have hup := up_next hx rfl
                  rw [upStep_eq B ⟨L, E, (sl, 0)⟩ lv pl s1 _ _ _ _ h ha (by rw [if_neg (by omega)]) hb (by rw [if_neg (fun hc => by rcases hc.2 with h9 | h9; (rw [← HP1.out] at h9; omega); (rw [← HQ2e.out] at h9; exact hc2 h9))]) hd, if_pos rfl] at hup
                  have HL3 : Hid (s3l.length ≤ 1099511627776) := by show s3l.length ≤ _; omega
                  have cE3 : ∀ y, ReaderIs y R (s3l, 0) → Calls Try.prog 123 #[.pointer (some ⟨R, 0, none⟩)] y fun e w' => e = .returned (.int .i64 0) ∧ y = w' := fun y hy => Err_calls R _ y hy
                  rw [← HUA.out] at hup
                  have hup := Lib.hid hup
                  clear hx HX ha hd hl3 hl1 hl2 hL9
                  have hsh3 := shlW (pl + 1) B lv hlv hB2 (by rw [← HP1.out]; exact hc1)
                  obtain ⟨Q3, hQ3⟩ : ∃ Q, Q = (pl + 1) * 2 ^ (B - lv) := ⟨_, rfl⟩
                  rw [← hQ3] at hsh3 hup
                  have HW9 : Hid (wrap64 ((pl : Int) + 1) = (pl : Int) + 1) := by show _ = _; have h8 := HPW.out; rw [← HP1.out] at h8; unfold wrap64; omega
                  have hsh3 : wrap64 (((pl : Int) + 1) * 2 ^ (B - lv)) = (Q3 : Int) := hsh3
                  have HSH3 := Lib.hid hsh3
                  clear hb hQ3 hsh3
                  have hB1 := hB.out
                  clear hB
                  have cE0 : ∀ y, ReaderIs y R (sl, 0) → Calls Try.prog 123 #[.pointer (some ⟨R, 0, none⟩)] y fun e w' => e = .returned (.int .i64 0) ∧ y = w' := fun y hy => Err_calls R _ y hy
                  go_wp2_with fail
                  refine (cE0 _ hR.out).mono ?_
                  rintro e we ⟨rfl, rfl⟩
                  clear cE0
                  go_wp2_with fail
                  have ltq285 : R < wr.heap.size := hR.out.lt
                  have ltq286 : r < wr.heap.size := hO.out.lt
                  refine (c1 _ hR.out).mono ?_
                  rintro e wq282 ⟨rfl, hRq283, gq284⟩
                  have szq287 := gq284.size
                  have hCq288 := Lib.hid (hO.out.kept gq284 (by omega) (fun q hq => by have := HQ.out q hq; have := HQ2.out q hq; omega))
                  have hBq289 := hB1.grown gq284 hB1.size (fun q e => by cases e; omega)
                  have hHq290 := Lib.hid hRq283
                  clear hRq283 hO hB1 hR gq284
                  go_wp2_with (first | ((with_reducible show wpList _ _ _ (⟨some 36, _, _, _, _, _⟩ :: _) _ _); refine wpList_buildCells rfl 138 #[(0, .tmp 35)] rfl (((Value.int .i64 (lv : Nat) :: .int .i64 0 :: z32v)).toArray) (Try.builtSeedLv _) ?_) | ((with_reducible show wpList _ _ _ (⟨some 10, _, _, _, _, _⟩ :: _) _ _); refine wpList_allocZ rfl 138 rfl _ Try.zeroSeed ?_; intro wq291 hsq292 baq293 hNq294) | ((with_reducible show wpList _ _ _ (⟨none, Op.store _ (.tmp 10) _, _, _, _, _⟩ :: _) _ _); refine wpList_storeBlk rfl 138 (.tmp 10) (.tmp 36) rfl (wq282.heap.size) (((Value.int .i64 (lv : Nat) :: .int .i64 0 :: z32v)).toArray) (by rfl) (by rfl) _ _ hNq294 (by kernel_rfl) (by rfl) (sdz_all _ _) ?_; intro wq295 hKq296 gq297; have bbq298 := below_new baq293 gq297 (Nat.le_refl _) baq293.size; have ltq299 : R < wq282.heap.size := hHq290.out.lt; have ltq300 : r < wq282.heap.size := hCq288.out.lt; have hCq301 := Lib.hid (hHq290.out.below bbq298); have hCq302 := Lib.hid (hCq288.out.below bbq298); have hBq303 := hBq289.trans (bbq298.mono hBq289.size); clear hHq290 hCq288 hBq289; clear bbq298 baq293 hNq294 gq297 hsq292; have hc0 := hKq296.cell 0 (.int .i64 (lv : Nat)) rfl))
                  clear hc0
                  have ltq307 : R < wq295.heap.size := hCq301.out.lt
                  have ltq308 : r < wq295.heap.size := hCq302.out.lt
                  have ltq309 : wq282.heap.size < wq295.heap.size := hKq296.lt
                  refine (c2 _ hCq301.out).mono ?_
                  rintro e wq304 ⟨rfl, hRq305, gq306⟩
                  have szq310 := gq306.size
                  have hCq311 := Lib.hid (hCq302.out.kept gq306 (by omega) (fun q hq => by have := HQ.out q hq; have := HQ2.out q hq; omega))
                  have hCq312 := hKq296.grown gq306 (by simp; omega)
                  have hBq313 := hBq303.grown gq306 hBq303.size (fun q e => by cases e; omega)
                  have hHq314 := Lib.hid hRq305
                  clear hRq305 hCq302 hKq296 hBq303 hCq301 gq306
                  go_wp2_with ((with_reducible show wpList _ _ _ (⟨none, Op.store _ (.tmp 45) _, _, _, _, _⟩ :: _) _ _); refine wpList_storeV rfl 3 (.tmp 45) (.tmp 44) rfl (wq282.heap.size) 1 (.int .i64 (pl : Nat)) (by rfl) (by rfl) _ (Value.int .i64 (lv : Nat) :: .int .i64 0 :: z32v) [.int .i64 (lv : Nat)] [.int .i64 0] z32v [.int .i64 (pl : Nat)] hCq312 (by rfl) (by rfl) (by rfl) (by rfl) (fun x hx => by rw [List.mem_singleton.1 hx]; rfl) (Try.sizeIntU) ?_; intro wq315 hSq316 gq317; have ltq318 : R < wq304.heap.size := hHq314.out.lt; have ltq319 : r < wq304.heap.size := hCq311.out.lt; have ltq320 : wq282.heap.size < wq304.heap.size := hCq312.lt; have hCq321 := Lib.hid (hHq314.out.grownB gq317 (by omega)); have hCq322 := Lib.hid (hCq311.out.kept gq317 (by omega) (fun q hq => by have := HQ.out q hq; have := HQ2.out q hq; omega)); have hBq323 := hBq313.grown gq317 hBq313.size (fun q e => by cases e; omega); clear hHq314 hCq311 hBq313 hCq312 gq317)
                  have hd0 := hSq316.cell 0 (.int .i64 (lv : Nat)) rfl
                  have hd1 := hSq316.cell 1 (.int .i64 (pl : Nat)) rfl
                  simp only [Act.put, List.setIfInBounds_toArray, List.set_cons_succ, List.set_cons_zero]
                  have hdc1 : decide (wrap64 ((2 : Int) ^ lv) ≤ (pl : Int)) = false := by rw [HW1.out]; simp; omega
                  have hdc3 : decide (wrap64 ((pl : Int) * 2 ^ (B - lv)) < (E : Int)) = false := by rw [HSH2.out]; simp; omega
                  go_big_quiet ((go_at_call 123; exact quiet_calls (cE _ (Blk.drewN hCq321.out _))))
                  clear hd0 hd1 hdc1 hdc3
                  go_wp2_with fail
                  have ltq327 : R < wq315.heap.size := hCq321.out.lt
                  have ltq328 : r < wq315.heap.size := hCq322.out.lt
                  have ltq329 : wq282.heap.size < wq315.heap.size := hSq316.lt
                  refine (c3 _ (Blk.drewN hCq321.out _)).mono ?_
                  rintro e wq324 ⟨rfl, hRq325, gq326⟩
                  have gq326 := grown_pre_drewN gq326
                  have szq330 := gq326.size
                  have hCq331 := Lib.hid (hCq322.out.kept gq326 (by omega) (fun q hq => by have := HQ.out q hq; have := HQ2.out q hq; omega))
                  have hCq332 := hSq316.grown gq326 (by simp; omega)
                  have hBq333 := hBq323.grown gq326 hBq323.size (fun q e => by cases e; omega)
                  have hHq334 := Lib.hid hRq325
                  clear hRq325 hCq322 hSq316 hBq323 hCq321 gq326
                  go_wp2_with ((with_reducible show wpList _ _ _ (⟨none, Op.store _ (.tmp 72) _, _, _, _, _⟩ :: _) _ _); refine wpList_storeV rfl 23 (.tmp 72) (.tmp 71) rfl (wq282.heap.size) 2 (.agg (h.map bv).toArray) (by rfl) (by rfl) _ (.int .i64 (lv : Nat) :: .int .i64 (pl : Nat) :: z32v) [.int .i64 (lv : Nat), .int .i64 (pl : Nat)] z32v [] (h.map bv) hCq332 (by rfl) (by rfl) (by show 32 = _; rw [List.length_map, HH.out]) (by rfl) (bv_one h) (by rw [List.length_map, HH.out]; exact Try.sizeHash) ?_; intro wq335 hSq336 gq337; have ltq338 : R < wq324.heap.size := hHq334.out.lt; have ltq339 : r < wq324.heap.size := hCq331.out.lt; have ltq340 : wq282.heap.size < wq324.heap.size := hCq332.lt; have hCq341 := Lib.hid (hHq334.out.grownB gq337 (by omega)); have hCq342 := Lib.hid (hCq331.out.kept gq337 (by omega) (fun q hq => by have := HQ.out q hq; have := HQ2.out q hq; omega)); have hBq343 := hBq333.grown gq337 hBq333.size (fun q e => by cases e; omega); clear hHq334 hCq331 hBq333 hCq332 gq337)
                  have hsd : Blk wq335 wq282.heap.size (Sd.cells ⟨lv, pl, h⟩).toArray 138 := by have h9 := hSq336; rw [List.append_nil] at h9; exact h9
                  clear hSq336
                  refine (cE3 _ hCq341.out).mono ?_
                  rintro e we ⟨rfl, rfl⟩
                  have hd0 := hsd.cell 0 (.int .i64 (lv : Nat)) rfl
                  have hd1 := hsd.cell 1 (.int .i64 (pl : Nat)) rfl
                  have hsh3 := HSH3.out
                  go_wp2_with fail
                  clear hd0 hd1 hsh3
                  have ltq344 : R < wq335.heap.size := hCq341.out.lt
                  have ltq345 : r < wq335.heap.size := hCq342.out.lt
                  have ltq346 : wq282.heap.size < wq335.heap.size := hsd.lt
                  refine wp_region_held_drew (S := fun x => Blk x (wq282.heap.size) (Sd.cells ⟨lv, pl, h⟩).toArray 138 ∧ ReaderIs x R (s3l, 0) ∧ Below w.heap.size w x) (by kernel_rfl) ⟨hsd.drew, hCq341.out.below (below_drewN (Below.refl _ _) 1), below_drewN hBq343 1⟩ (fun hSq347 => ?_)
                  have hHq348 := Lib.hid (hCq342.out.drew)
                  refine wpAnyH_take (i := 0) (v := .pointer (some ⟨r, 0, none⟩)) rfl (by kernel_rfl) (by kernel_rfl) (by kernel_rfl) (fun _ _ _ h => h) (Or.inl ⟨by rfl, fun x hx => by go_simp⟩) hSq347 ?_
                  simp only [Act.put, List.getElem_toArray, List.getElem_cons_zero, List.getElem_cons_succ, List.setIfInBounds_toArray, List.set_cons_zero, List.set_cons_succ]
                  refine wpAnyH_take (i := 1) (v := .pointer (some ⟨r, 0, none⟩)) rfl (by kernel_rfl) (by kernel_rfl) (by kernel_rfl) (fun _ _ _ h => h) (Or.inl ⟨by rfl, fun x hx => by go_simp⟩) hSq347 ?_
                  simp only [Act.put, List.getElem_toArray, List.getElem_cons_zero, List.getElem_cons_succ, List.setIfInBounds_toArray, List.set_cons_zero, List.set_cons_succ]
                  refine wpAnyH_take (i := 2) (v := .pointer (some ⟨r, 0, none⟩)) rfl (by kernel_rfl) (by kernel_rfl) (by kernel_rfl) (fun _ _ _ h => h) (Or.inl ⟨by rfl, fun x hx => by go_simp⟩) hSq347 ?_
                  simp only [Act.put, List.getElem_toArray, List.getElem_cons_zero, List.getElem_cons_succ, List.setIfInBounds_toArray, List.set_cons_zero, List.set_cons_succ]
                  refine wpAnyH_take (i := 3) (v := .pointer (some ⟨r, 1, none⟩)) rfl (by kernel_rfl) (by kernel_rfl) (by kernel_rfl) (fun _ _ _ h => h) (Or.inl ⟨by rfl, fun x hx => by go_simp⟩) hSq347 ?_
                  simp only [Act.put, List.getElem_toArray, List.getElem_cons_zero, List.getElem_cons_succ, List.setIfInBounds_toArray, List.set_cons_zero, List.set_cons_succ]
                  refine wpAnyH_take (i := 5) rfl (by kernel_rfl) (by kernel_rfl) (by kernel_rfl) (fun _ _ _ h => h) (yieldsIf_load_mid (by rfl) 138 (.tmp 10) rfl (wq282.heap.size) 0 (by rfl) ((Sd.cells ⟨lv, pl, h⟩)) _ (fun x hx => blk_rangeP hx.1) Try.underlying138 rfl (by rw [Sd.cells_len _ HH.out]; exact Try.sizeSeed)) hSq347 ?_
                  simp only [Act.put, List.getElem_toArray, List.getElem_cons_zero, List.getElem_cons_succ, List.setIfInBounds_toArray, List.set_cons_zero, List.set_cons_succ]
                  refine wpAnyH_ready (rs := [4, 6]) (by kernel_rfl) (by simp) ?_
                  refine AllReadyH.cons rfl (fun K hK => ?_) ?_
                  · have hc := (hHq348.out.1).cell 1 _ rfl
                    go_simp
                    refine hK.out _ _ hSq347 (fun hSq349 => ?_)
                    clear hK K hc hSq347
                    try simp only [Act.put, List.getElem_toArray, List.getElem_cons_zero, List.getElem_cons_succ, List.setIfInBounds_toArray, List.set_cons_zero, List.set_cons_succ]
                    refine wpAnyH_ready (rs := [6]) (by kernel_rfl) (by simp) ?_
                    refine AllReadyH.cons rfl (fun K hK => ?_) AllReadyH.nil
                    rw [if_pos (by rfl)]
                    refine wp_bsOneN 139 138 (.tmp 89) rfl ((Sd.cells ⟨lv, pl, h⟩)).toArray (by rfl) Try.underlying139 _ 34 Try.zsSeed (by rw [List.size_toArray]; exact Sd.cells_len _ HH.out) (by decide) (by decide) ?_
                    intro gq353 yq351 egq354 ezq355 bq350 hEq352
                    have lgq356 : w.heap.size ≤ gq353 := by rw [egq354]; exact hSq349.2.2.size
                    have lbq357 : wq282.heap.size < gq353 := by rw [egq354]; exact hSq349.1.lt
                    have hHq358 := Lib.hid (hHq348.out.below bq350)
                    refine hK.out _ _ ⟨hSq349.1.below bq350 hSq349.1.lt, hSq349.2.1.below bq350, hSq349.2.2.trans (bq350.mono hSq349.2.2.size)⟩ (fun hSq359 => ?_)
                    clear hK K hSq349 bq350 egq354 ezq355
                    refine wpAnyH_ready (rs := [7]) (by kernel_rfl) (by simp) ?_
                    refine AllReadyH.cons rfl (fun K hK => ?_) AllReadyH.nil
                    rw [if_pos (by rfl)]
                    refine wp_append_sd1 (.tmp 88) (.tmp 90) rfl (r + 1) v L ⟨lv, pl, h⟩ (by rfl) gq353 (by rfl) hHq358.out.2 hEq352 HH.out hLl (by have := hHq358.out.lt; omega) ?_
                    intro vq360 yq361 hoq362 gq363
                    have hrbq365 := hHq358.out.1.grown gq363 (fun e => by have := HQ.out r e.symm; omega)
                    refine hK.out _ _ ⟨hSq359.1.grown gq363 (fun e => by have := HQ2.out _ e.symm; omega), ReaderIs.grownO hSq359.2.1 gq363 (fun q e => by have := HQ.out q e; omega), hSq359.2.2.grown gq363 hSq359.2.2.size (fun q e => by have := HQ.out q e; omega)⟩ (fun hSq364 => ?_)
                    obtain ⟨aovq360, cvq360, rfl⟩ := own_slice hoq362
                    clear hK K hSq359 hEq352 hHq358 gq363
                    try simp only [Act.put, List.getElem_toArray, List.getElem_cons_zero, List.getElem_cons_succ, List.setIfInBounds_toArray, List.set_cons_zero, List.set_cons_succ]
                    refine wpAnyH_take (i := 8) (v := .pointer (some ⟨r, 0, none⟩)) rfl (by kernel_rfl) (by kernel_rfl) (by kernel_rfl) (fun _ _ _ h => h) (Or.inl ⟨by rfl, fun x hx => by go_simp⟩) hSq364 ?_
                    simp only [Act.put, List.getElem_toArray, List.getElem_cons_zero, List.getElem_cons_succ, List.setIfInBounds_toArray, List.set_cons_zero, List.set_cons_succ]
                    refine wpAnyH_take (i := 9) (v := .pointer (some ⟨r, 1, none⟩)) rfl (by kernel_rfl) (by kernel_rfl) (by kernel_rfl) (fun _ _ _ h => h) (Or.inl ⟨by rfl, fun x hx => by go_simp⟩) hSq364 ?_
                    simp only [Act.put, List.getElem_toArray, List.getElem_cons_zero, List.getElem_cons_succ, List.setIfInBounds_toArray, List.set_cons_zero, List.set_cons_succ]
                    refine wpAnyH_ready (rs := [10]) (by kernel_rfl) (by simp) ?_
                    refine AllReadyH.cons rfl (fun K hK => ?_) AllReadyH.nil
                    rw [if_pos (by rfl)]
                    refine wp_storeV 139 (.tmp 93) (.tmp 91) rfl r 1 (.slice aovq360 (L ++ [Sd.mk lv pl h]).length cvq360) (by rfl) (by rfl) _ [.int .i64 B, v] [.int .i64 B] [v] [] [.slice aovq360 (L ++ [Sd.mk lv pl h]).length cvq360] hrbq365 (by rfl) (by rfl) (by rfl) (by rfl) (fun x hx => by rw [List.mem_singleton.1 hx]; rfl) Try.sizeSeedsU ?_
                    intro yq366 hNq367 gq368
                    have hoq370 := hoq362.kept gq368 (.inr (fun e => by have := (hoq362.lt r e).1; omega))
                    refine hK.out _ _ ⟨hSq364.1.grown gq368 (by simp; omega), hSq364.2.1.grownB gq368 (by omega), hSq364.2.2.grown gq368 hSq364.2.2.size (fun q e => by cases e; omega)⟩ (fun hSq369 => ?_)
                    clear hK K hSq364 hoq362 gq368 hrbq365
                    refine wpAnyH_done (by kernel_rfl) ?_ _
                    have hRz := Lib.hid hSq369.2.1
                    have hBz := Lib.hid hSq369.2.2
                    have hOz : Hid (RowOwn yq366 (r + 1) r B (.slice aovq360 (L ++ [Sd.mk lv pl h]).length cvq360) (L ++ [Sd.mk lv pl h])) := ⟨hNq367, hoq370⟩
                    clear hSq369 hNq367 hoq370
                    go_wp2_with fail
                    go_roundw
                    case rel => exact ⟨k + 1, m, ⟨L ++ [⟨lv, pl, h⟩], Q3, (s3l, 0)⟩, .slice aovq360 (L ++ [Sd.mk lv pl h]).length cvq360, by omega, by rw [HW9.out, HSH3.out], by go_num, hup, hRz, hOz, hBz, HL3⟩
                    case measure => simp [intOf]
                  refine AllReadyH.cons rfl (fun K hK => ?_) AllReadyH.nil
                  rw [if_pos (by rfl)]
                  refine wp_bsOneN 139 138 (.tmp 89) rfl ((Sd.cells ⟨lv, pl, h⟩)).toArray (by rfl) Try.underlying139 _ 34 Try.zsSeed (by rw [List.size_toArray]; exact Sd.cells_len _ HH.out) (by decide) (by decide) ?_
                  intro gq374 yq372 egq375 ezq376 bq371 hEq373
                  have lgq377 : w.heap.size ≤ gq374 := by rw [egq375]; exact hSq347.2.2.size
                  have lbq378 : wq282.heap.size < gq374 := by rw [egq375]; exact hSq347.1.lt
                  have hHq379 := Lib.hid (hHq348.out.below bq371)
                  refine hK.out _ _ ⟨hSq347.1.below bq371 hSq347.1.lt, hSq347.2.1.below bq371, hSq347.2.2.trans (bq371.mono hSq347.2.2.size)⟩ (fun hSq380 => ?_)
                  clear hK K hSq347 bq371 egq375 ezq376
                  refine wpAnyH_ready (rs := [4]) (by kernel_rfl) (by simp) ?_
                  refine AllReadyH.cons rfl (fun K hK => ?_) AllReadyH.nil
                  have hc := (hHq379.out.1).cell 1 _ rfl
                  go_simp
                  refine hK.out _ _ hSq380 (fun hSq381 => ?_)
                  clear hK K hc hSq380
                  try simp only [Act.put, List.getElem_toArray, List.getElem_cons_zero, List.getElem_cons_succ, List.setIfInBounds_toArray, List.set_cons_zero, List.set_cons_succ]
                  refine wpAnyH_ready (rs := [7]) (by kernel_rfl) (by simp) ?_
                  refine AllReadyH.cons rfl (fun K hK => ?_) AllReadyH.nil
                  rw [if_pos (by rfl)]
                  refine wp_append_sd1 (.tmp 88) (.tmp 90) rfl (r + 1) v L ⟨lv, pl, h⟩ (by rfl) gq374 (by rfl) hHq379.out.2 hEq373 HH.out hLl (by have := hHq379.out.lt; omega) ?_
                  intro vq382 yq383 hoq384 gq385
                  have hrbq387 := hHq379.out.1.grown gq385 (fun e => by have := HQ.out r e.symm; omega)
                  refine hK.out _ _ ⟨hSq381.1.grown gq385 (fun e => by have := HQ2.out _ e.symm; omega), ReaderIs.grownO hSq381.2.1 gq385 (fun q e => by have := HQ.out q e; omega), hSq381.2.2.grown gq385 hSq381.2.2.size (fun q e => by have := HQ.out q e; omega)⟩ (fun hSq386 => ?_)
                  obtain ⟨aovq382, cvq382, rfl⟩ := own_slice hoq384
                  clear hK K hSq381 hEq373 hHq379 gq385
                  try simp only [Act.put, List.getElem_toArray, List.getElem_cons_zero, List.getElem_cons_succ, List.setIfInBounds_toArray, List.set_cons_zero, List.set_cons_succ]
                  refine wpAnyH_take (i := 8) (v := .pointer (some ⟨r, 0, none⟩)) rfl (by kernel_rfl) (by kernel_rfl) (by kernel_rfl) (fun _ _ _ h => h) (Or.inl ⟨by rfl, fun x hx => by go_simp⟩) hSq386 ?_
                  simp only [Act.put, List.getElem_toArray, List.getElem_cons_zero, List.getElem_cons_succ, List.setIfInBounds_toArray, List.set_cons_zero, List.set_cons_succ]
                  refine wpAnyH_take (i := 9) (v := .pointer (some ⟨r, 1, none⟩)) rfl (by kernel_rfl) (by kernel_rfl) (by kernel_rfl) (fun _ _ _ h => h) (Or.inl ⟨by rfl, fun x hx => by go_simp⟩) hSq386 ?_
                  simp only [Act.put, List.getElem_toArray, List.getElem_cons_zero, List.getElem_cons_succ, List.setIfInBounds_toArray, List.set_cons_zero, List.set_cons_succ]
                  refine wpAnyH_ready (rs := [10]) (by kernel_rfl) (by simp) ?_
                  refine AllReadyH.cons rfl (fun K hK => ?_) AllReadyH.nil
                  rw [if_pos (by rfl)]
                  refine wp_storeV 139 (.tmp 93) (.tmp 91) rfl r 1 (.slice aovq382 (L ++ [Sd.mk lv pl h]).length cvq382) (by rfl) (by rfl) _ [.int .i64 B, v] [.int .i64 B] [v] [] [.slice aovq382 (L ++ [Sd.mk lv pl h]).length cvq382] hrbq387 (by rfl) (by rfl) (by rfl) (by rfl) (fun x hx => by rw [List.mem_singleton.1 hx]; rfl) Try.sizeSeedsU ?_
                  intro yq388 hNq389 gq390
                  have hoq392 := hoq384.kept gq390 (.inr (fun e => by have := (hoq384.lt r e).1; omega))
                  refine hK.out _ _ ⟨hSq386.1.grown gq390 (by simp; omega), hSq386.2.1.grownB gq390 (by omega), hSq386.2.2.grown gq390 hSq386.2.2.size (fun q e => by cases e; omega)⟩ (fun hSq391 => ?_)
                  clear hK K hSq386 hoq384 gq390 hrbq387
                  refine wpAnyH_done (by kernel_rfl) ?_ _
                  have hRz := Lib.hid hSq391.2.1
                  have hBz := Lib.hid hSq391.2.2
                  have hOz : Hid (RowOwn yq388 (r + 1) r B (.slice aovq382 (L ++ [Sd.mk lv pl h]).length cvq382) (L ++ [Sd.mk lv pl h])) := ⟨hNq389, hoq392⟩
                  clear hSq391 hNq389 hoq392
                  go_wp2_with fail
                  go_roundw
                  case rel => exact ⟨k + 1, m, ⟨L ++ [⟨lv, pl, h⟩], Q3, (s3l, 0)⟩, .slice aovq382 (L ++ [Sd.mk lv pl h]).length cvq382, by omega, by rw [HW9.out, HSH3.out], by go_num, hup, hRz, hOz, hBz, HL3⟩
                  case measure => simp [intOf]
                · have hx := HX.out
                  rw [HUA.out] at hx
                  have hup := up_next hx rfl
                  rw [upStep_eq B ⟨L, E, (sl, 0)⟩ lv pl s1 _ _ _ _ h ha (by rw [if_neg (by omega)]) hb (by rw [if_neg (fun hc => by rcases hc.2 with h9 | h9; (rw [← HP1.out] at h9; omega); (rw [← HQ2e.out] at h9; exact hc2 h9))]) hd, if_neg he3] at hup
                  have HL3 : Hid (s3l.length ≤ 1099511627776) := by show s3l.length ≤ _; omega
                  have cE3 : ∀ y, ReaderIs y R (s3l, e3) → Calls Try.prog 123 #[.pointer (some ⟨R, 0, none⟩)] y fun e w' => e = .returned (.int .i64 e3) ∧ y = w' := fun y hy => Err_calls R _ y hy
                  have hez3 : (e3 == 0) = false := by simp [he3]
                  rw [← HUA.out] at hup
                  have hup := Lib.hid hup
                  clear hx HX ha hd hl3 he3 hl1 hl2 hL9
                  clear hb
                  have hB1 := hB.out
                  clear hB
                  have cE0 : ∀ y, ReaderIs y R (sl, 0) → Calls Try.prog 123 #[.pointer (some ⟨R, 0, none⟩)] y fun e w' => e = .returned (.int .i64 0) ∧ y = w' := fun y hy => Err_calls R _ y hy
                  go_wp2_with fail
                  refine (cE0 _ hR.out).mono ?_
                  rintro e we ⟨rfl, rfl⟩
                  clear cE0
                  go_wp2_with fail
                  have ltq396 : R < wr.heap.size := hR.out.lt
                  have ltq397 : r < wr.heap.size := hO.out.lt
                  refine (c1 _ hR.out).mono ?_
                  rintro e wq393 ⟨rfl, hRq394, gq395⟩
                  have szq398 := gq395.size
                  have hCq399 := Lib.hid (hO.out.kept gq395 (by omega) (fun q hq => by have := HQ.out q hq; have := HQ2.out q hq; omega))
                  have hBq400 := hB1.grown gq395 hB1.size (fun q e => by cases e; omega)
                  have hHq401 := Lib.hid hRq394
                  clear hRq394 hO hB1 hR gq395
                  go_wp2_with (first | ((with_reducible show wpList _ _ _ (⟨some 36, _, _, _, _, _⟩ :: _) _ _); refine wpList_buildCells rfl 138 #[(0, .tmp 35)] rfl (((Value.int .i64 (lv : Nat) :: .int .i64 0 :: z32v)).toArray) (Try.builtSeedLv _) ?_) | ((with_reducible show wpList _ _ _ (⟨some 10, _, _, _, _, _⟩ :: _) _ _); refine wpList_allocZ rfl 138 rfl _ Try.zeroSeed ?_; intro wq402 hsq403 baq404 hNq405) | ((with_reducible show wpList _ _ _ (⟨none, Op.store _ (.tmp 10) _, _, _, _, _⟩ :: _) _ _); refine wpList_storeBlk rfl 138 (.tmp 10) (.tmp 36) rfl (wq393.heap.size) (((Value.int .i64 (lv : Nat) :: .int .i64 0 :: z32v)).toArray) (by rfl) (by rfl) _ _ hNq405 (by kernel_rfl) (by rfl) (sdz_all _ _) ?_; intro wq406 hKq407 gq408; have bbq409 := below_new baq404 gq408 (Nat.le_refl _) baq404.size; have ltq410 : R < wq393.heap.size := hHq401.out.lt; have ltq411 : r < wq393.heap.size := hCq399.out.lt; have hCq412 := Lib.hid (hHq401.out.below bbq409); have hCq413 := Lib.hid (hCq399.out.below bbq409); have hBq414 := hBq400.trans (bbq409.mono hBq400.size); clear hHq401 hCq399 hBq400; clear bbq409 baq404 hNq405 gq408 hsq403; have hc0 := hKq407.cell 0 (.int .i64 (lv : Nat)) rfl))
                  clear hc0
                  have ltq418 : R < wq406.heap.size := hCq412.out.lt
                  have ltq419 : r < wq406.heap.size := hCq413.out.lt
                  have ltq420 : wq393.heap.size < wq406.heap.size := hKq407.lt
                  refine (c2 _ hCq412.out).mono ?_
                  rintro e wq415 ⟨rfl, hRq416, gq417⟩
                  have szq421 := gq417.size
                  have hCq422 := Lib.hid (hCq413.out.kept gq417 (by omega) (fun q hq => by have := HQ.out q hq; have := HQ2.out q hq; omega))
                  have hCq423 := hKq407.grown gq417 (by simp; omega)
                  have hBq424 := hBq414.grown gq417 hBq414.size (fun q e => by cases e; omega)
                  have hHq425 := Lib.hid hRq416
                  clear hRq416 hCq413 hKq407 hBq414 hCq412 gq417
                  go_wp2_with ((with_reducible show wpList _ _ _ (⟨none, Op.store _ (.tmp 45) _, _, _, _, _⟩ :: _) _ _); refine wpList_storeV rfl 3 (.tmp 45) (.tmp 44) rfl (wq393.heap.size) 1 (.int .i64 (pl : Nat)) (by rfl) (by rfl) _ (Value.int .i64 (lv : Nat) :: .int .i64 0 :: z32v) [.int .i64 (lv : Nat)] [.int .i64 0] z32v [.int .i64 (pl : Nat)] hCq423 (by rfl) (by rfl) (by rfl) (by rfl) (fun x hx => by rw [List.mem_singleton.1 hx]; rfl) (Try.sizeIntU) ?_; intro wq426 hSq427 gq428; have ltq429 : R < wq415.heap.size := hHq425.out.lt; have ltq430 : r < wq415.heap.size := hCq422.out.lt; have ltq431 : wq393.heap.size < wq415.heap.size := hCq423.lt; have hCq432 := Lib.hid (hHq425.out.grownB gq428 (by omega)); have hCq433 := Lib.hid (hCq422.out.kept gq428 (by omega) (fun q hq => by have := HQ.out q hq; have := HQ2.out q hq; omega)); have hBq434 := hBq424.grown gq428 hBq424.size (fun q e => by cases e; omega); clear hHq425 hCq422 hBq424 hCq423 gq428)
                  have hd0 := hSq427.cell 0 (.int .i64 (lv : Nat)) rfl
                  have hd1 := hSq427.cell 1 (.int .i64 (pl : Nat)) rfl
                  simp only [Act.put, List.setIfInBounds_toArray, List.set_cons_succ, List.set_cons_zero]
                  have hdc1 : decide (wrap64 ((2 : Int) ^ lv) ≤ (pl : Int)) = false := by rw [HW1.out]; simp; omega
                  have hdc3 : decide (wrap64 ((pl : Int) * 2 ^ (B - lv)) < (E : Int)) = false := by rw [HSH2.out]; simp; omega
                  go_big_quiet ((go_at_call 123; exact quiet_calls (cE _ (Blk.drewN hCq432.out _))))
                  clear hd0 hd1 hdc1 hdc3
                  go_wp2_with fail
                  have ltq438 : R < wq426.heap.size := hCq432.out.lt
                  have ltq439 : r < wq426.heap.size := hCq433.out.lt
                  have ltq440 : wq393.heap.size < wq426.heap.size := hSq427.lt
                  refine (c3 _ (Blk.drewN hCq432.out _)).mono ?_
                  rintro e wq435 ⟨rfl, hRq436, gq437⟩
                  have gq437 := grown_pre_drewN gq437
                  have szq441 := gq437.size
                  have hCq442 := Lib.hid (hCq433.out.kept gq437 (by omega) (fun q hq => by have := HQ.out q hq; have := HQ2.out q hq; omega))
                  have hCq443 := hSq427.grown gq437 (by simp; omega)
                  have hBq444 := hBq434.grown gq437 hBq434.size (fun q e => by cases e; omega)
                  have hHq445 := Lib.hid hRq436
                  clear hRq436 hCq433 hSq427 hBq434 hCq432 gq437
                  go_wp2_with ((with_reducible show wpList _ _ _ (⟨none, Op.store _ (.tmp 72) _, _, _, _, _⟩ :: _) _ _); refine wpList_storeV rfl 23 (.tmp 72) (.tmp 71) rfl (wq393.heap.size) 2 (.agg (h.map bv).toArray) (by rfl) (by rfl) _ (.int .i64 (lv : Nat) :: .int .i64 (pl : Nat) :: z32v) [.int .i64 (lv : Nat), .int .i64 (pl : Nat)] z32v [] (h.map bv) hCq443 (by rfl) (by rfl) (by show 32 = _; rw [List.length_map, HH.out]) (by rfl) (bv_one h) (by rw [List.length_map, HH.out]; exact Try.sizeHash) ?_; intro wq446 hSq447 gq448; have ltq449 : R < wq435.heap.size := hHq445.out.lt; have ltq450 : r < wq435.heap.size := hCq442.out.lt; have ltq451 : wq393.heap.size < wq435.heap.size := hCq443.lt; have hCq452 := Lib.hid (hHq445.out.grownB gq448 (by omega)); have hCq453 := Lib.hid (hCq442.out.kept gq448 (by omega) (fun q hq => by have := HQ.out q hq; have := HQ2.out q hq; omega)); have hBq454 := hBq444.grown gq448 hBq444.size (fun q e => by cases e; omega); clear hHq445 hCq442 hBq444 hCq443 gq448)
                  have hsd : Blk wq446 wq393.heap.size (Sd.cells ⟨lv, pl, h⟩).toArray 138 := by have h9 := hSq447; rw [List.append_nil] at h9; exact h9
                  clear hSq447
                  refine (cE3 _ hCq452.out).mono ?_
                  rintro e we ⟨rfl, rfl⟩
                  go_wp2_with fail
                  go_roundw
                  case rel => exact ⟨k + 1, m, ⟨L, E, (s3l, e3)⟩, v, by omega, rfl, by go_num, Lib.hid hup, hCq452, hCq453, Lib.hid hBq454, HL3⟩
                  case measure => simp [intOf]
            · have cE : ∀ y, ReaderIs y R (s2l, 0) → Calls Try.prog 123 #[.pointer (some ⟨R, 0, none⟩)] y fun e w' => e = .returned (.int .i64 0) ∧ y = w' := fun y hy => Err_calls R _ y hy
              have cF2 : ∀ y, ReaderIs y R (s2l, 0) → Calls Try.prog 124 #[.pointer (some ⟨R, 0, none⟩), .int .i64 3] y fun e w' => e = .returned (.tuple #[]) ∧ ReaderIs w' R (s2l, 3) ∧ y.grownBy w' (some R) := fun y hy => Fail_calls R (s2l, 0) 3 y hy
              obtain ⟨h, s3, hd⟩ : ∃ h s3, rHash (s2l, 3) = (h, s3) := ⟨_, _, rfl⟩
              have hl3 : s3.1.length ≤ (s2l, 3).1.length := by have := rHash_left (s2l, 3); rw [hd] at this; exact this
              have HH : Hid (h.length = 32) := by have := rHash_len (s2l, 3); rw [hd] at this; exact this
              have c3 : ∀ y, ReaderIs y R (s2l, 3) → Calls Try.prog 125 #[.pointer (some ⟨R, 0, none⟩)] y fun e w' => e = .returned (.agg (h.map bv).toArray) ∧ ReaderIs w' R s3 ∧ y.grownBy w' (some R) := fun y hy => by have h9 := RHash_calls R (s2l, 3) y hy (by show s2l.length ≤ _; omega); rw [hd] at h9; exact h9
              obtain ⟨s3l, e3⟩ := s3
              have hl3 : s3l.length ≤ s2l.length := hl3
              have he3 : e3 ≠ 0 := by have := rHash_err (s2l, 3) (show (3 : Int) ≠ 0 by decide); rw [hd] at this; exact this
              have hx := HX.out
              rw [HUA.out] at hx
              have hup := up_next hx rfl
              rw [upStep_eq B ⟨L, E, (sl, 0)⟩ lv pl s1 _ _ _ _ h ha (by rw [if_neg (by omega)]) hb (by rw [if_pos ⟨rfl, .inl (by rw [← HP1.out]; omega)⟩]; rfl) hd, if_neg he3] at hup
              have HL3 : Hid (s3l.length ≤ 1099511627776) := by show s3l.length ≤ _; omega
              have cE3 : ∀ y, ReaderIs y R (s3l, e3) → Calls Try.prog 123 #[.pointer (some ⟨R, 0, none⟩)] y fun e w' => e = .returned (.int .i64 e3) ∧ y = w' := fun y hy => Err_calls R _ y hy
              have hez3 : (e3 == 0) = false := by simp [he3]
              rw [← HUA.out] at hup
              have hup := Lib.hid hup
              clear hx HX ha hd hl3 he3 hl1 hl2 hL9
              clear hb
              have hB1 := hB.out
              clear hB
              have cE0 : ∀ y, ReaderIs y R (sl, 0) → Calls Try.prog 123 #[.pointer (some ⟨R, 0, none⟩)] y fun e w' => e = .returned (.int .i64 0) ∧ y = w' := fun y hy => Err_calls R _ y hy
              go_wp2_with fail
              refine (cE0 _ hR.out).mono ?_
              rintro e we ⟨rfl, rfl⟩
              clear cE0
              go_wp2_with fail
              have ltq139 : R < wr.heap.size := hR.out.lt
              have ltq140 : r < wr.heap.size := hO.out.lt
              refine (c1 _ hR.out).mono ?_
              rintro e wq136 ⟨rfl, hRq137, gq138⟩
              have szq141 := gq138.size
              have hCq142 := Lib.hid (hO.out.kept gq138 (by omega) (fun q hq => by have := HQ.out q hq; have := HQ2.out q hq; omega))
              have hBq143 := hB1.grown gq138 hB1.size (fun q e => by cases e; omega)
              have hHq144 := Lib.hid hRq137
              clear hRq137 hO hB1 hR gq138
              go_wp2_with (first | ((with_reducible show wpList _ _ _ (⟨some 36, _, _, _, _, _⟩ :: _) _ _); refine wpList_buildCells rfl 138 #[(0, .tmp 35)] rfl (((Value.int .i64 (lv : Nat) :: .int .i64 0 :: z32v)).toArray) (Try.builtSeedLv _) ?_) | ((with_reducible show wpList _ _ _ (⟨some 10, _, _, _, _, _⟩ :: _) _ _); refine wpList_allocZ rfl 138 rfl _ Try.zeroSeed ?_; intro wq145 hsq146 baq147 hNq148) | ((with_reducible show wpList _ _ _ (⟨none, Op.store _ (.tmp 10) _, _, _, _, _⟩ :: _) _ _); refine wpList_storeBlk rfl 138 (.tmp 10) (.tmp 36) rfl (wq136.heap.size) (((Value.int .i64 (lv : Nat) :: .int .i64 0 :: z32v)).toArray) (by rfl) (by rfl) _ _ hNq148 (by kernel_rfl) (by rfl) (sdz_all _ _) ?_; intro wq149 hKq150 gq151; have bbq152 := below_new baq147 gq151 (Nat.le_refl _) baq147.size; have ltq153 : R < wq136.heap.size := hHq144.out.lt; have ltq154 : r < wq136.heap.size := hCq142.out.lt; have hCq155 := Lib.hid (hHq144.out.below bbq152); have hCq156 := Lib.hid (hCq142.out.below bbq152); have hBq157 := hBq143.trans (bbq152.mono hBq143.size); clear hHq144 hCq142 hBq143; clear bbq152 baq147 hNq148 gq151 hsq146; have hc0 := hKq150.cell 0 (.int .i64 (lv : Nat)) rfl))
              clear hc0
              have ltq161 : R < wq149.heap.size := hCq155.out.lt
              have ltq162 : r < wq149.heap.size := hCq156.out.lt
              have ltq163 : wq136.heap.size < wq149.heap.size := hKq150.lt
              refine (c2 _ hCq155.out).mono ?_
              rintro e wq158 ⟨rfl, hRq159, gq160⟩
              have szq164 := gq160.size
              have hCq165 := Lib.hid (hCq156.out.kept gq160 (by omega) (fun q hq => by have := HQ.out q hq; have := HQ2.out q hq; omega))
              have hCq166 := hKq150.grown gq160 (by simp; omega)
              have hBq167 := hBq157.grown gq160 hBq157.size (fun q e => by cases e; omega)
              have hHq168 := Lib.hid hRq159
              clear hRq159 hCq156 hKq150 hBq157 hCq155 gq160
              go_wp2_with ((with_reducible show wpList _ _ _ (⟨none, Op.store _ (.tmp 45) _, _, _, _, _⟩ :: _) _ _); refine wpList_storeV rfl 3 (.tmp 45) (.tmp 44) rfl (wq136.heap.size) 1 (.int .i64 (pl : Nat)) (by rfl) (by rfl) _ (Value.int .i64 (lv : Nat) :: .int .i64 0 :: z32v) [.int .i64 (lv : Nat)] [.int .i64 0] z32v [.int .i64 (pl : Nat)] hCq166 (by rfl) (by rfl) (by rfl) (by rfl) (fun x hx => by rw [List.mem_singleton.1 hx]; rfl) (Try.sizeIntU) ?_; intro wq169 hSq170 gq171; have ltq172 : R < wq158.heap.size := hHq168.out.lt; have ltq173 : r < wq158.heap.size := hCq165.out.lt; have ltq174 : wq136.heap.size < wq158.heap.size := hCq166.lt; have hCq175 := Lib.hid (hHq168.out.grownB gq171 (by omega)); have hCq176 := Lib.hid (hCq165.out.kept gq171 (by omega) (fun q hq => by have := HQ.out q hq; have := HQ2.out q hq; omega)); have hBq177 := hBq167.grown gq171 hBq167.size (fun q e => by cases e; omega); clear hHq168 hCq165 hBq167 hCq166 gq171)
              have hd0 := hSq170.cell 0 (.int .i64 (lv : Nat)) rfl
              have hd1 := hSq170.cell 1 (.int .i64 (pl : Nat)) rfl
              simp only [Act.put, List.setIfInBounds_toArray, List.set_cons_succ, List.set_cons_zero]
              have hdc1 : decide (wrap64 ((2 : Int) ^ lv) ≤ (pl : Int)) = true := by rw [HW1.out]; simp; omega
              go_big_quiet ((go_at_call 123; exact quiet_calls (cE _ (Blk.drewN hCq175.out _))))
              clear hd0 hd1 hdc1
              go_wp2_with fail
              have ltq181 : R < wq169.heap.size := hCq175.out.lt
              have ltq182 : r < wq169.heap.size := hCq176.out.lt
              have ltq183 : wq136.heap.size < wq169.heap.size := hSq170.lt
              refine (cF2 _ (Blk.drewN hCq175.out _)).mono ?_
              rintro e wq178 ⟨rfl, hRq179, gq180⟩
              have gq180 := grown_pre_drewN gq180
              have szq184 := gq180.size
              have hCq185 := Lib.hid (hCq176.out.kept gq180 (by omega) (fun q hq => by have := HQ.out q hq; have := HQ2.out q hq; omega))
              have hCq186 := hSq170.grown gq180 (by simp; omega)
              have hBq187 := hBq177.grown gq180 hBq177.size (fun q e => by cases e; omega)
              have hHq188 := Lib.hid hRq179
              clear hRq179 hCq176 hSq170 hBq177 hCq175 gq180
              go_wp2_with fail
              have ltq192 : R < wq178.heap.size := hHq188.out.lt
              have ltq193 : r < wq178.heap.size := hCq185.out.lt
              have ltq194 : wq136.heap.size < wq178.heap.size := hCq186.lt
              refine (c3 _ hHq188.out).mono ?_
              rintro e wq189 ⟨rfl, hRq190, gq191⟩
              have szq195 := gq191.size
              have hCq196 := Lib.hid (hCq185.out.kept gq191 (by omega) (fun q hq => by have := HQ.out q hq; have := HQ2.out q hq; omega))
              have hCq197 := hCq186.grown gq191 (by simp; omega)
              have hBq198 := hBq187.grown gq191 hBq187.size (fun q e => by cases e; omega)
              have hHq199 := Lib.hid hRq190
              clear hRq190 hCq185 hCq186 hBq187 hHq188 gq191
              go_wp2_with ((with_reducible show wpList _ _ _ (⟨none, Op.store _ (.tmp 72) _, _, _, _, _⟩ :: _) _ _); refine wpList_storeV rfl 23 (.tmp 72) (.tmp 71) rfl (wq136.heap.size) 2 (.agg (h.map bv).toArray) (by rfl) (by rfl) _ (.int .i64 (lv : Nat) :: .int .i64 (pl : Nat) :: z32v) [.int .i64 (lv : Nat), .int .i64 (pl : Nat)] z32v [] (h.map bv) hCq197 (by rfl) (by rfl) (by show 32 = _; rw [List.length_map, HH.out]) (by rfl) (bv_one h) (by rw [List.length_map, HH.out]; exact Try.sizeHash) ?_; intro wq200 hSq201 gq202; have ltq203 : R < wq189.heap.size := hHq199.out.lt; have ltq204 : r < wq189.heap.size := hCq196.out.lt; have ltq205 : wq136.heap.size < wq189.heap.size := hCq197.lt; have hCq206 := Lib.hid (hHq199.out.grownB gq202 (by omega)); have hCq207 := Lib.hid (hCq196.out.kept gq202 (by omega) (fun q hq => by have := HQ.out q hq; have := HQ2.out q hq; omega)); have hBq208 := hBq198.grown gq202 hBq198.size (fun q e => by cases e; omega); clear hHq199 hCq196 hBq198 hCq197 gq202)
              have hsd : Blk wq200 wq136.heap.size (Sd.cells ⟨lv, pl, h⟩).toArray 138 := by have h9 := hSq201; rw [List.append_nil] at h9; exact h9
              clear hSq201
              refine (cE3 _ hCq206.out).mono ?_
              rintro e we ⟨rfl, rfl⟩
              go_wp2_with fail
              go_roundw
              case rel => exact ⟨k + 1, m, ⟨L, E, (s3l, e3)⟩, v, by omega, rfl, by go_num, Lib.hid hup, hCq206, hCq207, Lib.hid hBq208, HL3⟩
              case measure => simp [intOf]
          · have cE : ∀ y, ReaderIs y R (s2l, e2) → Calls Try.prog 123 #[.pointer (some ⟨R, 0, none⟩)] y fun e w' => e = .returned (.int .i64 e2) ∧ y = w' := fun y hy => Err_calls R _ y hy
            have hez : (e2 == 0) = false := by simp [he2]
            obtain ⟨h, s3, hd⟩ : ∃ h s3, rHash (s2l, e2) = (h, s3) := ⟨_, _, rfl⟩
            have hl3 : s3.1.length ≤ (s2l, e2).1.length := by have := rHash_left (s2l, e2); rw [hd] at this; exact this
            have HH : Hid (h.length = 32) := by have := rHash_len (s2l, e2); rw [hd] at this; exact this
            have c3 : ∀ y, ReaderIs y R (s2l, e2) → Calls Try.prog 125 #[.pointer (some ⟨R, 0, none⟩)] y fun e w' => e = .returned (.agg (h.map bv).toArray) ∧ ReaderIs w' R s3 ∧ y.grownBy w' (some R) := fun y hy => by have h9 := RHash_calls R (s2l, e2) y hy (by show s2l.length ≤ _; omega); rw [hd] at h9; exact h9
            obtain ⟨s3l, e3⟩ := s3
            have hl3 : s3l.length ≤ s2l.length := hl3
            have he3 : e3 ≠ 0 := by have := rHash_err (s2l, e2) he2; rw [hd] at this; exact this
            have hx := HX.out
            rw [HUA.out] at hx
            have hup := up_next hx rfl
            rw [upStep_eq B ⟨L, E, (sl, 0)⟩ lv pl s1 _ _ _ _ h ha (by rw [if_neg (by omega)]) hb (by rw [if_neg (fun hc => he2 hc.1)]) hd, if_neg he3] at hup
            have HL3 : Hid (s3l.length ≤ 1099511627776) := by show s3l.length ≤ _; omega
            have cE3 : ∀ y, ReaderIs y R (s3l, e3) → Calls Try.prog 123 #[.pointer (some ⟨R, 0, none⟩)] y fun e w' => e = .returned (.int .i64 e3) ∧ y = w' := fun y hy => Err_calls R _ y hy
            have hez3 : (e3 == 0) = false := by simp [he3]
            rw [← HUA.out] at hup
            have hup := Lib.hid hup
            clear hx HX ha hd hl3 he3 hl1 hl2 hL9
            clear hb he2 hpw
            have hB1 := hB.out
            clear hB
            have cE0 : ∀ y, ReaderIs y R (sl, 0) → Calls Try.prog 123 #[.pointer (some ⟨R, 0, none⟩)] y fun e w' => e = .returned (.int .i64 0) ∧ y = w' := fun y hy => Err_calls R _ y hy
            go_wp2_with fail
            refine (cE0 _ hR.out).mono ?_
            rintro e we ⟨rfl, rfl⟩
            clear cE0
            go_wp2_with fail
            have ltq77 : R < wr.heap.size := hR.out.lt
            have ltq78 : r < wr.heap.size := hO.out.lt
            refine (c1 _ hR.out).mono ?_
            rintro e wq74 ⟨rfl, hRq75, gq76⟩
            have szq79 := gq76.size
            have hCq80 := Lib.hid (hO.out.kept gq76 (by omega) (fun q hq => by have := HQ.out q hq; have := HQ2.out q hq; omega))
            have hBq81 := hB1.grown gq76 hB1.size (fun q e => by cases e; omega)
            have hHq82 := Lib.hid hRq75
            clear hRq75 hO hB1 hR gq76
            go_wp2_with (first | ((with_reducible show wpList _ _ _ (⟨some 36, _, _, _, _, _⟩ :: _) _ _); refine wpList_buildCells rfl 138 #[(0, .tmp 35)] rfl (((Value.int .i64 (lv : Nat) :: .int .i64 0 :: z32v)).toArray) (Try.builtSeedLv _) ?_) | ((with_reducible show wpList _ _ _ (⟨some 10, _, _, _, _, _⟩ :: _) _ _); refine wpList_allocZ rfl 138 rfl _ Try.zeroSeed ?_; intro wq83 hsq84 baq85 hNq86) | ((with_reducible show wpList _ _ _ (⟨none, Op.store _ (.tmp 10) _, _, _, _, _⟩ :: _) _ _); refine wpList_storeBlk rfl 138 (.tmp 10) (.tmp 36) rfl (wq74.heap.size) (((Value.int .i64 (lv : Nat) :: .int .i64 0 :: z32v)).toArray) (by rfl) (by rfl) _ _ hNq86 (by kernel_rfl) (by rfl) (sdz_all _ _) ?_; intro wq87 hKq88 gq89; have bbq90 := below_new baq85 gq89 (Nat.le_refl _) baq85.size; have ltq91 : R < wq74.heap.size := hHq82.out.lt; have ltq92 : r < wq74.heap.size := hCq80.out.lt; have hCq93 := Lib.hid (hHq82.out.below bbq90); have hCq94 := Lib.hid (hCq80.out.below bbq90); have hBq95 := hBq81.trans (bbq90.mono hBq81.size); clear hHq82 hCq80 hBq81; clear bbq90 baq85 hNq86 gq89 hsq84; have hc0 := hKq88.cell 0 (.int .i64 (lv : Nat)) rfl))
            clear hc0
            have ltq99 : R < wq87.heap.size := hCq93.out.lt
            have ltq100 : r < wq87.heap.size := hCq94.out.lt
            have ltq101 : wq74.heap.size < wq87.heap.size := hKq88.lt
            refine (c2 _ hCq93.out).mono ?_
            rintro e wq96 ⟨rfl, hRq97, gq98⟩
            have szq102 := gq98.size
            have hCq103 := Lib.hid (hCq94.out.kept gq98 (by omega) (fun q hq => by have := HQ.out q hq; have := HQ2.out q hq; omega))
            have hCq104 := hKq88.grown gq98 (by simp; omega)
            have hBq105 := hBq95.grown gq98 hBq95.size (fun q e => by cases e; omega)
            have hHq106 := Lib.hid hRq97
            clear hRq97 hCq94 hKq88 hBq95 hCq93 gq98
            go_wp2_with ((with_reducible show wpList _ _ _ (⟨none, Op.store _ (.tmp 45) _, _, _, _, _⟩ :: _) _ _); refine wpList_storeV rfl 3 (.tmp 45) (.tmp 44) rfl (wq74.heap.size) 1 (.int .i64 (pl : Nat)) (by rfl) (by rfl) _ (Value.int .i64 (lv : Nat) :: .int .i64 0 :: z32v) [.int .i64 (lv : Nat)] [.int .i64 0] z32v [.int .i64 (pl : Nat)] hCq104 (by rfl) (by rfl) (by rfl) (by rfl) (fun x hx => by rw [List.mem_singleton.1 hx]; rfl) (Try.sizeIntU) ?_; intro wq107 hSq108 gq109; have ltq110 : R < wq96.heap.size := hHq106.out.lt; have ltq111 : r < wq96.heap.size := hCq103.out.lt; have ltq112 : wq74.heap.size < wq96.heap.size := hCq104.lt; have hCq113 := Lib.hid (hHq106.out.grownB gq109 (by omega)); have hCq114 := Lib.hid (hCq103.out.kept gq109 (by omega) (fun q hq => by have := HQ.out q hq; have := HQ2.out q hq; omega)); have hBq115 := hBq105.grown gq109 hBq105.size (fun q e => by cases e; omega); clear hHq106 hCq103 hBq105 hCq104 gq109)
            have hd0 := hSq108.cell 0 (.int .i64 (lv : Nat)) rfl
            have hd1 := hSq108.cell 1 (.int .i64 (pl : Nat)) rfl
            simp only [Act.put, List.setIfInBounds_toArray, List.set_cons_succ, List.set_cons_zero]
            go_big_quiet ((go_at_call 123; exact quiet_calls (cE _ (Blk.drewN hCq113.out _))))
            clear hd0 hd1
            go_wp2_with fail
            have ltq119 : R < wq107.heap.size := hCq113.out.lt
            have ltq120 : r < wq107.heap.size := hCq114.out.lt
            have ltq121 : wq74.heap.size < wq107.heap.size := hSq108.lt
            refine (c3 _ (Blk.drewN hCq113.out _)).mono ?_
            rintro e wq116 ⟨rfl, hRq117, gq118⟩
            have gq118 := grown_pre_drewN gq118
            have szq122 := gq118.size
            have hCq123 := Lib.hid (hCq114.out.kept gq118 (by omega) (fun q hq => by have := HQ.out q hq; have := HQ2.out q hq; omega))
            have hCq124 := hSq108.grown gq118 (by simp; omega)
            have hBq125 := hBq115.grown gq118 hBq115.size (fun q e => by cases e; omega)
            have hHq126 := Lib.hid hRq117
            clear hRq117 hCq114 hSq108 hBq115 hCq113 gq118
            go_wp2_with ((with_reducible show wpList _ _ _ (⟨none, Op.store _ (.tmp 72) _, _, _, _, _⟩ :: _) _ _); refine wpList_storeV rfl 23 (.tmp 72) (.tmp 71) rfl (wq74.heap.size) 2 (.agg (h.map bv).toArray) (by rfl) (by rfl) _ (.int .i64 (lv : Nat) :: .int .i64 (pl : Nat) :: z32v) [.int .i64 (lv : Nat), .int .i64 (pl : Nat)] z32v [] (h.map bv) hCq124 (by rfl) (by rfl) (by show 32 = _; rw [List.length_map, HH.out]) (by rfl) (bv_one h) (by rw [List.length_map, HH.out]; exact Try.sizeHash) ?_; intro wq127 hSq128 gq129; have ltq130 : R < wq116.heap.size := hHq126.out.lt; have ltq131 : r < wq116.heap.size := hCq123.out.lt; have ltq132 : wq74.heap.size < wq116.heap.size := hCq124.lt; have hCq133 := Lib.hid (hHq126.out.grownB gq129 (by omega)); have hCq134 := Lib.hid (hCq123.out.kept gq129 (by omega) (fun q hq => by have := HQ.out q hq; have := HQ2.out q hq; omega)); have hBq135 := hBq125.grown gq129 hBq125.size (fun q e => by cases e; omega); clear hHq126 hCq123 hBq125 hCq124 gq129)
            have hsd : Blk wq127 wq74.heap.size (Sd.cells ⟨lv, pl, h⟩).toArray 138 := by have h9 := hSq128; rw [List.append_nil] at h9; exact h9
            clear hSq128
            refine (cE3 _ hCq133.out).mono ?_
            rintro e we ⟨rfl, rfl⟩
            go_wp2_with fail
            go_roundw
            case rel => exact ⟨k + 1, m, ⟨L, E, (s3l, e3)⟩, v, by omega, rfl, by go_num, Lib.hid hup, hCq133, hCq134, Lib.hid hBq135, HL3⟩
            case measure => simp [intOf]
        · have hlv2 : B < lv := by omega
          have cF1 : ∀ y, ReaderIs y R s1 → Calls Try.prog 124 #[.pointer (some ⟨R, 0, none⟩), .int .i64 3] y fun e w' => e = .returned (.tuple #[]) ∧ ReaderIs w' R (rFail 3 s1) ∧ y.grownBy w' (some R) := fun y hy => Fail_calls R s1 3 y hy
          obtain ⟨pl, s2, hb, hl2, _⟩ := rNum_nat (rFail 3 s1)
          have c2 : ∀ y, ReaderIs y R (rFail 3 s1) → Calls Try.prog 122 #[.pointer (some ⟨R, 0, none⟩), .int .i64 4611686018427387903] y fun e w' => e = .returned (.int .i64 (pl : Nat)) ∧ ReaderIs w' R s2 ∧ y.grownBy w' (some R) := fun y hy => by have h9 := RNum_calls R (rFail 3 s1) maxN y hy (by rw [rFail_left]; omega); rw [hb] at h9; exact h9
          obtain ⟨s2l, e2⟩ := s2
          rw [rFail_left] at hl2
          have hl2 : s2l.length ≤ s1.1.length := hl2
          have he2 : e2 ≠ 0 := by have := rNum_err maxN _ (rFail_zero 3 (by decide) s1); rw [hb] at this; exact this
          have cE : ∀ y, ReaderIs y R (s2l, e2) → Calls Try.prog 123 #[.pointer (some ⟨R, 0, none⟩)] y fun e w' => e = .returned (.int .i64 e2) ∧ y = w' := fun y hy => Err_calls R _ y hy
          have hez : (e2 == 0) = false := by simp [he2]
          obtain ⟨h, s3, hd⟩ : ∃ h s3, rHash (s2l, e2) = (h, s3) := ⟨_, _, rfl⟩
          have hl3 : s3.1.length ≤ (s2l, e2).1.length := by have := rHash_left (s2l, e2); rw [hd] at this; exact this
          have HH : Hid (h.length = 32) := by have := rHash_len (s2l, e2); rw [hd] at this; exact this
          have c3 : ∀ y, ReaderIs y R (s2l, e2) → Calls Try.prog 125 #[.pointer (some ⟨R, 0, none⟩)] y fun e w' => e = .returned (.agg (h.map bv).toArray) ∧ ReaderIs w' R s3 ∧ y.grownBy w' (some R) := fun y hy => by have h9 := RHash_calls R (s2l, e2) y hy (by show s2l.length ≤ _; omega); rw [hd] at h9; exact h9
          obtain ⟨s3l, e3⟩ := s3
          have hl3 : s3l.length ≤ s2l.length := hl3
          have he3 : e3 ≠ 0 := by have := rHash_err (s2l, e2) he2; rw [hd] at this; exact this
          have hx := HX.out
          rw [HUA.out] at hx
          have hup := up_next hx rfl
          rw [upStep_eq B ⟨L, E, (sl, 0)⟩ lv pl s1 _ _ _ _ h ha (by rw [if_pos hlv2]) hb (by rw [if_neg (fun hc => he2 hc.1)]) hd, if_neg he3] at hup
          have HL3 : Hid (s3l.length ≤ 1099511627776) := by show s3l.length ≤ _; omega
          have cE3 : ∀ y, ReaderIs y R (s3l, e3) → Calls Try.prog 123 #[.pointer (some ⟨R, 0, none⟩)] y fun e w' => e = .returned (.int .i64 e3) ∧ y = w' := fun y hy => Err_calls R _ y hy
          have hez3 : (e3 == 0) = false := by simp [he3]
          rw [← HUA.out] at hup
          have hup := Lib.hid hup
          clear hx HX ha hd hl3 he3 hl1 hl2 hL9
          clear hb hlv he2
          have hB1 := hB.out
          clear hB
          have cE0 : ∀ y, ReaderIs y R (sl, 0) → Calls Try.prog 123 #[.pointer (some ⟨R, 0, none⟩)] y fun e w' => e = .returned (.int .i64 0) ∧ y = w' := fun y hy => Err_calls R _ y hy
          go_wp2_with fail
          refine (cE0 _ hR.out).mono ?_
          rintro e we ⟨rfl, rfl⟩
          clear cE0
          go_wp2_with fail
          have ltq4 : R < wr.heap.size := hR.out.lt
          have ltq5 : r < wr.heap.size := hO.out.lt
          refine (c1 _ hR.out).mono ?_
          rintro e wq1 ⟨rfl, hRq2, gq3⟩
          have szq6 := gq3.size
          have hCq7 := Lib.hid (hO.out.kept gq3 (by omega) (fun q hq => by have := HQ.out q hq; have := HQ2.out q hq; omega))
          have hBq8 := hB1.grown gq3 hB1.size (fun q e => by cases e; omega)
          have hHq9 := Lib.hid hRq2
          clear hRq2 hO hB1 hR gq3
          go_wp2_with (first | ((with_reducible show wpList _ _ _ (⟨some 36, _, _, _, _, _⟩ :: _) _ _); refine wpList_buildCells rfl 138 #[(0, .tmp 35)] rfl (((Value.int .i64 (lv : Nat) :: .int .i64 0 :: z32v)).toArray) (Try.builtSeedLv _) ?_) | ((with_reducible show wpList _ _ _ (⟨some 10, _, _, _, _, _⟩ :: _) _ _); refine wpList_allocZ rfl 138 rfl _ Try.zeroSeed ?_; intro wq10 hsq11 baq12 hNq13) | ((with_reducible show wpList _ _ _ (⟨none, Op.store _ (.tmp 10) _, _, _, _, _⟩ :: _) _ _); refine wpList_storeBlk rfl 138 (.tmp 10) (.tmp 36) rfl (wq1.heap.size) (((Value.int .i64 (lv : Nat) :: .int .i64 0 :: z32v)).toArray) (by rfl) (by rfl) _ _ hNq13 (by kernel_rfl) (by rfl) (sdz_all _ _) ?_; intro wq14 hKq15 gq16; have bbq17 := below_new baq12 gq16 (Nat.le_refl _) baq12.size; have ltq18 : R < wq1.heap.size := hHq9.out.lt; have ltq19 : r < wq1.heap.size := hCq7.out.lt; have hCq20 := Lib.hid (hHq9.out.below bbq17); have hCq21 := Lib.hid (hCq7.out.below bbq17); have hBq22 := hBq8.trans (bbq17.mono hBq8.size); clear hHq9 hCq7 hBq8; clear bbq17 baq12 hNq13 gq16 hsq11; have hc0 := hKq15.cell 0 (.int .i64 (lv : Nat)) rfl))
          clear hc0
          have ltq26 : R < wq14.heap.size := hCq20.out.lt
          have ltq27 : r < wq14.heap.size := hCq21.out.lt
          have ltq28 : wq1.heap.size < wq14.heap.size := hKq15.lt
          refine (cF1 _ hCq20.out).mono ?_
          rintro e wq23 ⟨rfl, hRq24, gq25⟩
          have szq29 := gq25.size
          have hCq30 := Lib.hid (hCq21.out.kept gq25 (by omega) (fun q hq => by have := HQ.out q hq; have := HQ2.out q hq; omega))
          have hCq31 := hKq15.grown gq25 (by simp; omega)
          have hBq32 := hBq22.grown gq25 hBq22.size (fun q e => by cases e; omega)
          have hHq33 := Lib.hid hRq24
          clear hRq24 hCq21 hKq15 hBq22 hCq20 gq25
          go_wp2_with fail
          have ltq37 : R < wq23.heap.size := hHq33.out.lt
          have ltq38 : r < wq23.heap.size := hCq30.out.lt
          have ltq39 : wq1.heap.size < wq23.heap.size := hCq31.lt
          refine (c2 _ hHq33.out).mono ?_
          rintro e wq34 ⟨rfl, hRq35, gq36⟩
          have szq40 := gq36.size
          have hCq41 := Lib.hid (hCq30.out.kept gq36 (by omega) (fun q hq => by have := HQ.out q hq; have := HQ2.out q hq; omega))
          have hCq42 := hCq31.grown gq36 (by simp; omega)
          have hBq43 := hBq32.grown gq36 hBq32.size (fun q e => by cases e; omega)
          have hHq44 := Lib.hid hRq35
          clear hRq35 hCq30 hCq31 hBq32 hHq33 gq36
          go_wp2_with ((with_reducible show wpList _ _ _ (⟨none, Op.store _ (.tmp 45) _, _, _, _, _⟩ :: _) _ _); refine wpList_storeV rfl 3 (.tmp 45) (.tmp 44) rfl (wq1.heap.size) 1 (.int .i64 (pl : Nat)) (by rfl) (by rfl) _ (Value.int .i64 (lv : Nat) :: .int .i64 0 :: z32v) [.int .i64 (lv : Nat)] [.int .i64 0] z32v [.int .i64 (pl : Nat)] hCq42 (by rfl) (by rfl) (by rfl) (by rfl) (fun x hx => by rw [List.mem_singleton.1 hx]; rfl) (Try.sizeIntU) ?_; intro wq45 hSq46 gq47; have ltq48 : R < wq34.heap.size := hHq44.out.lt; have ltq49 : r < wq34.heap.size := hCq41.out.lt; have ltq50 : wq1.heap.size < wq34.heap.size := hCq42.lt; have hCq51 := Lib.hid (hHq44.out.grownB gq47 (by omega)); have hCq52 := Lib.hid (hCq41.out.kept gq47 (by omega) (fun q hq => by have := HQ.out q hq; have := HQ2.out q hq; omega)); have hBq53 := hBq43.grown gq47 hBq43.size (fun q e => by cases e; omega); clear hHq44 hCq41 hBq43 hCq42 gq47)
          have hd0 := hSq46.cell 0 (.int .i64 (lv : Nat)) rfl
          have hd1 := hSq46.cell 1 (.int .i64 (pl : Nat)) rfl
          simp only [Act.put, List.setIfInBounds_toArray, List.set_cons_succ, List.set_cons_zero]
          go_big_quiet ((go_at_call 123; exact quiet_calls (cE _ (Blk.drewN hCq51.out _))))
          clear hd0 hd1
          go_wp2_with fail
          have ltq57 : R < wq45.heap.size := hCq51.out.lt
          have ltq58 : r < wq45.heap.size := hCq52.out.lt
          have ltq59 : wq1.heap.size < wq45.heap.size := hSq46.lt
          refine (c3 _ (Blk.drewN hCq51.out _)).mono ?_
          rintro e wq54 ⟨rfl, hRq55, gq56⟩
          have gq56 := grown_pre_drewN gq56
          have szq60 := gq56.size
          have hCq61 := Lib.hid (hCq52.out.kept gq56 (by omega) (fun q hq => by have := HQ.out q hq; have := HQ2.out q hq; omega))
          have hCq62 := hSq46.grown gq56 (by simp; omega)
          have hBq63 := hBq53.grown gq56 hBq53.size (fun q e => by cases e; omega)
          have hHq64 := Lib.hid hRq55
          clear hRq55 hCq52 hSq46 hBq53 hCq51 gq56
          go_wp2_with ((with_reducible show wpList _ _ _ (⟨none, Op.store _ (.tmp 72) _, _, _, _, _⟩ :: _) _ _); refine wpList_storeV rfl 23 (.tmp 72) (.tmp 71) rfl (wq1.heap.size) 2 (.agg (h.map bv).toArray) (by rfl) (by rfl) _ (.int .i64 (lv : Nat) :: .int .i64 (pl : Nat) :: z32v) [.int .i64 (lv : Nat), .int .i64 (pl : Nat)] z32v [] (h.map bv) hCq62 (by rfl) (by rfl) (by show 32 = _; rw [List.length_map, HH.out]) (by rfl) (bv_one h) (by rw [List.length_map, HH.out]; exact Try.sizeHash) ?_; intro wq65 hSq66 gq67; have ltq68 : R < wq54.heap.size := hHq64.out.lt; have ltq69 : r < wq54.heap.size := hCq61.out.lt; have ltq70 : wq1.heap.size < wq54.heap.size := hCq62.lt; have hCq71 := Lib.hid (hHq64.out.grownB gq67 (by omega)); have hCq72 := Lib.hid (hCq61.out.kept gq67 (by omega) (fun q hq => by have := HQ.out q hq; have := HQ2.out q hq; omega)); have hBq73 := hBq63.grown gq67 hBq63.size (fun q e => by cases e; omega); clear hHq64 hCq61 hBq63 hCq62 gq67)
          have hsd : Blk wq65 wq1.heap.size (Sd.cells ⟨lv, pl, h⟩).toArray 138 := by have h9 := hSq66; rw [List.append_nil] at h9; exact h9
          clear hSq66
          refine (cE3 _ hCq71.out).mono ?_
          rintro e we ⟨rfl, rfl⟩
          go_wp2_with fail
          go_roundw
          case rel => exact ⟨k + 1, m, ⟨L, E, (s3l, e3)⟩, v, by omega, rfl, by go_num, Lib.hid hup, hCq71, hCq72, Lib.hid hBq73, HL3⟩
          case measure => simp [intOf]
      · have hfin : Hid (X = ⟨L, E, (sl, se)⟩) := by
          show _ = _
          rw [HUP.out, HUA.out, upAt_stop B u0 k (by rw [← HUA.out, ← HX.out]; exact hse) n (by omega), ← HUA.out, ← HX.out]
        have hez : (se == 0) = false := by simp [hse]
        clear HX HUP HUA
        have cE1 : ∀ y, ReaderIs y R (sl, se) → Calls Try.prog 123 #[.pointer (some ⟨R, 0, none⟩)] y fun e w' => e = .returned (.int .i64 se) ∧ y = w' := fun y hy => Err_calls R _ y hy
        go_wp2_with fail
        refine (cE1 _ hR.out).mono ?_
        rintro e we ⟨rfl, rfl⟩
        go_wp2_with fail
        refine (REnd_calls R _ _ hR.out).mono ?_
        rintro e we ⟨rfl, rfl⟩
        obtain ⟨E9, hE9⟩ : ∃ E9, E9 = rEnd (sl, se) := ⟨_, rfl⟩
        rw [← hE9]
        have hf2 : Hid (rEnd X.s = E9) := by show _ = _; rw [hfin.out, hE9]
        have hXl : Hid (X.l = L) := by show _ = _; rw [hfin.out]
        clear hE9 hfin HOK
        by_cases h9 : E9 = 0
        · subst h9
          go_wp2_with fail
          go_returns
          exact ⟨.pointer (some ⟨r, 0, none⟩), by rw [hf2.out]; rfl, .inl ⟨hf2.out, r, rfl, by omega, by rw [hXl.out]; exact hO.out.at HL32.out⟩, hB.out⟩
        · have h9e : (E9 == 0) = false := by simp [h9]
          go_wp2_with fail
          go_returns
          exact ⟨.pointer none, by rw [hf2.out]; rfl, .inr ⟨by rw [hf2.out]; exact h9, rfl⟩, hB.out⟩
end Go.Proofs.Ytnfegmcdljejnaa
