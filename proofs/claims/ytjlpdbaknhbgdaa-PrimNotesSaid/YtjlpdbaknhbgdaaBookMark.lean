/-
  book: mark.
-/
import Derived.Test.YtjlpdbaknhbgdaaF0
import Derived.Test.YtjlpdbaknhbgdaaBookRep
import Derived.WalkLawsBesides
import Derived.Outline
import Derived.Handy
set_option linter.unusedSimpArgs false
set_option linter.unusedVariables false
namespace Go.Proofs.Ytjlpdbaknhbgdaa
open Go.RowKit

theorem wpList_boxA {P : Program} {ops : Array Oper} {rest : List Oper} {o : Oper} {a : Act} {w : World} {Q : Exit → Act → World → Prop} (hg : o.guard = none) (t : TypeId) (x : Operand) (ho : o.op = .box t x) (cs : Array Value) (hx : a.eval x = .agg cs)
    (h : ∀ w', Below w.heap.size w w' → Blk w' w.heap.size cs t → wpList P ops Q rest (a.put o.dst (.pointer (some ⟨w.heap.size, 0, none⟩))) w') : wpList P ops Q (o :: rest) a w := by
  refine wpList_plain hg fun K hK => ?_
  unfold Oper.wp execOp
  simp [ho, hx, newVar, newRow, Value.cells, Result.andThen]
  exact hK _ _ (h _ (below_alloc1 _ _) (Blk.new _ _ _))
/-- A row of bytes of one's own. -/
def OwnB (w : World) (base : Nat) (v : Value) (bs : List UInt8) : Prop := w.ownsRow base 5 1 v bs.length (bs.map bv)
theorem OwnB.below {w w' : World} {base : Nat} {v : Value} {bs : List UInt8} (h : OwnB w base v bs) (b : Below w.heap.size w w') : OwnB w' base v bs := own_below h b
theorem conv_ownB {P : Program} {base : Nat} {w : World} {v : Value} {bs : List UInt8} {src e dst : TypeId} (hs : P.underlying src = some (.slice e)) (he : P.underlying e = some (.int .u8)) (hd : P.underlying dst = some .string)
    (h : OwnB w base v bs) : (convert src dst v).run P w = .ok (.string (str bs)) w := by
  show _ = Result.ok (Value.string ⟨bs.toArray⟩) w
  rcases h.2 with ⟨rfl, h0⟩ | ⟨g, cap, cur, rfl, _, hg, _, _, _, htk⟩
  · obtain rfl : bs = [] := List.eq_nil_of_length_eq_zero h0
    rw [run_convert_bytes_string w src dst e none 0 0 hs he hd]
    simp [Conv.bytesToString]
    rfl
  · refine run_convert_bytes_back w src dst e ⟨g, 0, none⟩ cap bs hs he hd fun j hj => ?_
    exact World.ownsRow.cells h (g := g) rfl j _ (by simp [bv, hj])
theorem byteV (x : Int) (n : Nat) (h : x = ((n % 256 : Nat) : Int)) : Value.int .u8 x = bv (UInt8.ofNat n) := by subst h; simp [bv]
/-- []byte of four. -/
theorem wpList_bsB4 {P : Program} {ops : Array Oper} {rest : List Oper} {o : Oper} {a : Act} {w : World} {Q : Exit → Act → World → Prop} (hgd : o.guard = none) (t : TypeId) (x0 x1 x2 x3 : Operand) (ho : o.op = .buildSlice t 4 #[(0, x0), (1, x1), (2, x2), (3, x3)])
    (base : Nat) (c0 c1 c2 c3 : UInt8) (h0 : a.eval x0 = bv c0) (h1 : a.eval x1 = bv c1) (h2 : a.eval x2 = bv c2) (h3 : a.eval x3 = bv c3) (hu : P.underlying t = some (.slice 5)) (hz : (P.info? 5).map (fun i => (i.zero, i.size)) = some (some (.int .u8 0), 1)) (hbw : base ≤ w.heap.size)
    (hK : ∀ w', Below w.heap.size w w' → OwnB w' base (.slice (some ⟨w.heap.size, 0, none⟩) 4 4) [c0, c1, c2, c3] → wpList P ops Q rest (a.put o.dst (.slice (some ⟨w.heap.size, 0, none⟩) 4 4)) w') : wpList P ops Q (o :: rest) a w := by
  refine wpList_plain hgd fun K hk => ?_
  cases hi : P.info? 5 with
  | none => simp [hi] at hz
  | some ie =>
    simp [hi] at hz
    obtain ⟨hz1, hz2⟩ := hz
    refine Go.wp_buildSlice t 5 4 #[(0, x0), (1, x1), (2, x2), (3, x3)] ho #[bv c0, bv c1, bv c2, bv c3] ie (.int .u8 0) hu hi hz1 (by rw [hz2]; omega) (by rw [hz2]; omega) ?_ (hk _ _ (hK _ (below_alloc1 _ _) ?_))
    · have e4 : Array.range 4 = #[0, 1, 2, 3] := by decide
      simp [h0, h1, h2, h3, hz2, Instr.fill, Value.cells, bv, e4]
    · refine ⟨rfl, .inr ⟨w.heap.size, 4, #[bv c0, bv c1, bv c2, bv c3], rfl, hbw, ?_, Nat.le_refl _, by unfold maxLen; omega, rfl, rfl⟩⟩
      have := Blk.new w #[bv c0, bv c1, bv c2, bv c3] 5
      exact this
/-- append of bytes that lie in a block. -/
theorem wpList_append_B {P : Program} {ops : Array Oper} {rest : List Oper} {o : Oper} {a : Act} {w : World} {Q : Exit → Act → World → Prop} (hgd : o.guard = none) (s x : Operand) (t : TypeId)
    (ho : o.op = .call { callee := .builtin .append, args := #[s, x], argTypes := #[t, t] }) (base : Nat) (ht : P.underlying t = some (.slice 5)) (hi : (P.info? 5).map (fun i => (i.zero, i.size, i.bytes)) = some (some (.int .u8 0), 1, 1))
    (v : Value) (L : List UInt8) (h : List UInt8) (hs : a.eval s = v) (hown : OwnB w base v L) (g m c : Nat) (hm : m = h.length) (hx : a.eval x = .slice (some ⟨g, 0, none⟩) m c) (e2 : TypeId) (hg : Blk w g (h.map bv).toArray e2) (hn : L.length + m ≤ 1000000000) (hbase : base ≤ w.heap.size)
    (hK : ∀ v' w', OwnB w' base v' (L ++ h) → w.grownBy w' v.ownBlock → wpList P ops Q rest (a.put o.dst v') w') : wpList P ops Q (o :: rest) a w := by
  subst hm
  obtain ⟨i, hi1, hz, hsz, hby⟩ := info_parts hi
  refine wpList_append_own w hgd s x t ho base 5 i (.int .u8 0) 1 1 ht hi1 hz hsz hby rfl (by decide) v _ _ hs hown ⟨g, 0, none⟩ h.length c (h.map bv) hx (by simp) (fun j u hj => by rw [Addr.add_lit, Nat.zero_add]; exact hg.cell j u (by rw [List.getElem?_toArray]; exact hj)) (bs_one h) (by unfold maxLen; omega) (by omega) hbase fun v' w' h2 h3 _ => ?_
  refine hK v' w' ?_ h3
  show w'.ownsRow _ _ _ _ _ _
  rw [List.length_append, List.map_append]; exact h2
theorem Try.infoU8b : (Try.prog.info? 5).map (fun i => (i.zero, i.size)) = some (some (.int .u8 0), 1) := by kernel_rfl
theorem Try.neUH : 5 ≠ 26 := by decide
theorem OwnB.ne_blk {w : World} {base : Nat} {v : Value} {bs : List UInt8} (h : OwnB w base v bs) {q : Nat} {cs : Array Value} {t : TypeId} (hq : Blk w q cs t) (he : 5 ≠ t) : some q ≠ v.ownBlock := fun e2 => own_ne h hq he e2.symm
theorem two_index0 (x y : Option Addr) (a b c d : Nat) : ∀ w, (Instr.index 106 (.agg #[.slice x a b, .slice y c d]) (.int .i64 0)).run Try.prog w = .ok (.slice x a b) w := fun w => by kernel_rfl
theorem two_index1 (x y : Option Addr) (a b c d : Nat) : ∀ w, (Instr.index 106 (.agg #[.slice x a b, .slice y c d]) (.int .i64 1)).run Try.prog w = .ok (.slice y c d) w := fun w => by kernel_rfl
/-- The text by which a fact is known. -/
def le4 (n : Nat) : List UInt8 := [UInt8.ofNat n, UInt8.ofNat (n / 256), UInt8.ofNat (n / 65536), UInt8.ofNat (n / 16777216)]
def markB (f : FactT) : List UInt8 := le4 f.ins.length ++ (f.ins.flatten ++ f.outs.flatten)
def preT (f : FactT) (j : Nat) : List UInt8 := le4 f.ins.length ++ ((if 0 < j then f.ins.flatten else []) ++ (if 1 < j then f.outs.flatten else []))
theorem flatten32_len : ∀ (l : List HsT), (∀ x ∈ l, x.length = 32) → l.flatten.length = l.length * 32
  | [], _ => rfl
  | x :: l, h => by
    rw [List.flatten_cons, List.length_append, flatten32_len l (fun y hy => h y (List.mem_cons_of_mem _ hy)), h x List.mem_cons_self, List.length_cons]
    omega
theorem preT_len (f : FactT) (j : Nat) (h1 : ∀ x ∈ f.ins, x.length = 32) (h2 : ∀ x ∈ f.outs, x.length = 32) : (preT f j).length ≤ 4 + f.ins.length * 32 + f.outs.length * 32 := by
  have e1 := flatten32_len f.ins h1
  have e2 := flatten32_len f.outs h2
  unfold preT
  rw [List.length_append, List.length_append, show (le4 f.ins.length).length = 4 from rfl]
  by_cases h3 : 0 < j <;> by_cases h4 : 1 < j
  · rw [if_pos h3, if_pos h4, e1, e2]; omega
  · rw [if_pos h3, if_neg h4, e1, List.length_nil]; omega
  · omega
  · rw [if_neg h3, if_neg h4, List.length_nil]; omega
theorem flatten32_take (l : List HsT) (k : Nat) (h : ∀ x ∈ l, x.length = 32) (hl : l.length ≤ 1000000) : (l.take k).flatten.length ≤ 32000000 := by
  rw [flatten32_len _ (fun x hx => h x (List.mem_of_mem_take hx)), List.length_take]
  omega
set_option maxHeartbeats 8000000 in
set_option maxRecDepth 100000 in
theorem mark_calls (x y : Value) (f : FactT) (w : World) (hx : HashesAt w x f.ins) (hy : HashesAt w y f.outs) (hn1 : f.ins.length ≤ 1000000) (hn2 : f.outs.length ≤ 1000000) :
    Calls Try.prog 46 #[.agg #[x, y]] w fun e w' => e = .returned (.string (str (markB f))) ∧ Below w.heap.size w w' := by
  obtain ⟨xa, xc, rfl, hxc⟩ := hx.slice
  obtain ⟨ya, yc, rfl, hyc⟩ := hy.slice
  obtain ⟨n, hn⟩ : ∃ n, n = f.ins.length := ⟨_, rfl⟩
  obtain ⟨m, hm⟩ : ∃ m, m = f.outs.length := ⟨_, rfl⟩
  rw [← hn] at hx hxc hn1 ⊢
  rw [← hm] at hy hyc hn2 ⊢
  have HX : Hid (∀ w', Below w.heap.size w w' → HashesAt w' (.slice xa n xc) f.ins) := fun w' b => hx.below b
  have HY : Hid (∀ w', Below w.heap.size w w' → HashesAt w' (.slice ya m yc) f.outs) := fun w' b => hy.below b
  have HN := Lib.hid hn
  have HM := Lib.hid hm
  obtain ⟨base, hbase⟩ : ∃ base, base = w.heap.size := ⟨_, rfl⟩
  rw [← hbase] at HX HY ⊢
  have HBS : Hid (base = w.heap.size) := hbase
  clear hx hy hn hm
  go_enter Try.func46, Try.ntmps46
  go_wp2_with (first | ((with_reducible show wpList _ _ _ (⟨some 1, _, _, _, _, _⟩ :: _) _ _); refine wpList_boxA rfl 68 (.tmp 0) rfl #[.slice xa n xc, .slice ya m yc] (by rfl) ?_; intro w1 b1 n1; have hf1 : w.heap.size < w1.heap.size := n1.lt) | ((with_reducible show wpList _ _ _ (⟨some 10, _, _, _, _, _⟩ :: _) _ _); refine wpList_load1 rfl 23 (.tmp 9) rfl w.heap.size 0 (by rfl) (.slice xa n xc) _ (n1.cell 0 _ rfl) Try.underlying23 rfl ?_) | ((with_reducible show wpList _ _ _ (⟨some 23, _, _, _, _, _⟩ :: _) _ _); refine wpList_bsB4 rfl 45 (.tmp 13) (.tmp 16) (.tmp 19) (.tmp 22) rfl base (UInt8.ofNat n) (UInt8.ofNat (n / 256)) (UInt8.ofNat (n / 65536)) (UInt8.ofNat (n / 16777216)) (byteV _ _ (by omega)) (byteV _ _ (by omega)) (byteV _ _ (by omega)) (byteV _ _ (by omega)) Try.underlying45 Try.infoU8b (Nat.le_trans (Nat.le_of_eq HBS.out) b1.size) ?_; intro w2 b2 o2; have n2 := n1.below b2 n1.lt; have hB2 := b1.trans (b2.mono b1.size); clear n1 b1 b2) | ((with_reducible show wpList _ _ _ (⟨some 25, _, _, _, _, _⟩ :: _) _ _); refine wpList_load1 rfl 23 (.tmp 24) rfl w.heap.size 0 (by rfl) (.slice xa n xc) _ (n2.cell 0 _ rfl) Try.underlying23 rfl ?_) | ((with_reducible show wpList _ _ _ (⟨some 27, _, _, _, _, _⟩ :: _) _ _); refine wpList_load1 rfl 23 (.tmp 26) rfl w.heap.size 1 (by rfl) (.slice ya m yc) _ (n2.cell 1 _ rfl) Try.underlying23 rfl ?_))
  have hO : OwnB w2 base (.slice (some ⟨w1.heap.size, 0, none⟩) 4 4) (preT f 0) := by
    have e : preT f 0 = [UInt8.ofNat n, UInt8.ofNat (n / 256), UInt8.ofNat (n / 65536), UInt8.ofNat (n / 16777216)] := by rw [HN.out]; rfl
    rw [e]; exact o2
  have HO := Lib.hid hO
  have HB2 : Hid (Below base w w2) := by rw [HBS.out]; exact hB2
  have HLX := Lib.hid (HX.out w (Below.refl _ _)).1
  have HLY := Lib.hid (HY.out w (Below.refl _ _)).1
  clear hO o2 hB2 n2
  go_loopw [4, 29] (fun v i wr => ∃ (j : Nat), j ≤ 2 ∧ i = .int .i64 (j : Nat) ∧ Hid (OwnB wr base v (preT f j)) ∧ Hid (Below base w wr)) (fun _ i _ => 2 - (intOf i).toNat)
  case atStart => exact ⟨0, by omega, rfl, HO, HB2⟩
  case round =>
    clear HO HB2
    obtain ⟨j, hj, rfl, HO, HB⟩ := hrel
    by_cases hj0 : j = 0
    · subst hj0
      clear hj
      rw [show (((0 : Nat)) : Int) = 0 from rfl]
      have hix := two_index0 xa ya n xc m yc
      go_wp2_with fail
      clear hix
      go_loopw [4, 34] (fun v i wr => ∃ (k : Nat), k ≤ n ∧ i = .int .i64 (k : Nat) ∧ Hid (OwnB wr base v (preT f 0 ++ (f.ins.take k).flatten)) ∧ Hid (Below base w wr)) (fun _ i _ => n - (intOf i).toNat)
      case atStart => exact ⟨0, by omega, rfl, by simpa using HO, HB⟩
      case round =>
        clear HO HB
        obtain ⟨k, hk, rfl, HO, HB⟩ := hrel
        by_cases hlt : k < n
        · obtain ⟨s, hs⟩ : ∃ s, f.ins[k]? = some s := ⟨f.ins[k]'(by rw [← HN.out]; exact hlt), List.getElem?_eq_getElem _⟩
          have HS := Lib.hid (HLX.out s (List.mem_of_getElem? hs))
          obtain ⟨g, o, rfl, hr⟩ := (HX.out _ HB.out).range k s hs
          have HR := Lib.hid hr
          have HLB : Hid ((preT f 0 ++ (f.ins.take k).flatten).length + 32 ≤ 1000000000) := by
            show _ ≤ _
            have e1 := flatten32_take f.ins k HLX.out (by rw [← HN.out]; omega)
            have e2 := preT_len f 0 HLX.out HLY.out
            have e3 := HN.out
            have e4 := HM.out
            rw [List.length_append]; omega
          have HNX : Hid (preT f 0 ++ (f.ins.take (k + 1)).flatten = preT f 0 ++ (f.ins.take k).flatten ++ s) := by
            show _ = _
            obtain ⟨h3, h4⟩ := List.getElem?_eq_some_iff.1 hs
            rw [List.take_succ_eq_append_getElem h3, h4]
            simp
          have hB := HB.out
          clear hr hs HB
          go_wp2_with (first | ((with_reducible show wpList _ _ _ (⟨some 37, _, _, _, _, _⟩ :: _) _ _); refine wpList_load_mid rfl 26 (.tmp 36) rfl g (o + k * 32) (by rfl) (s.map bv) _ HR.out Try.underlying26 rfl (by rw [List.length_map, HS.out]; exact Try.sizeHash) ?_) | ((with_reducible show wpList _ _ _ (⟨some 8, _, _, _, _, _⟩ :: _) _ _); refine wpList_allocZ rfl 26 rfl _ Try.zeroHash ?_; intro wq1 hsq2 baq3 hNq4) | ((with_reducible show wpList _ _ _ (⟨none, Op.store _ (.tmp 8) _, _, _, _, _⟩ :: _) _ _); refine wpList_storeBlk rfl 26 (.tmp 8) (.tmp 37) rfl (wr.heap.size) ((s.map bv).toArray) (by rfl) (by rfl) _ _ hNq4 (by rw [bv_size, HS.out]; exact Try.sizeHash) (by rw [bv_size, HS.out, Z32_size]) (bv_all _) ?_; intro wq5 hKq6 gq7; have bbq8 := below_new baq3 gq7 (Nat.le_refl _) baq3.size; have hCq9 := Lib.hid (HO.out.below bbq8); have hBq10 := hB.trans (bbq8.mono (Nat.le_trans (Nat.le_of_eq HBS.out) hB.size)); clear HO hB; clear bbq8 baq3 hNq4 gq7 hsq2) | ((with_reducible show wpList _ _ _ (⟨some 40, _, _, _, _, _⟩ :: _) _ _); refine wpList_append_B rfl (.tmp 38) (.tmp 39) 45 rfl base Try.underlying45 Try.infoU8 _ _ s (by rfl) hCq9.out wr.heap.size 32 32 HS.out.symm (by rfl) _ hKq6 HLB.out (Nat.le_trans (Nat.le_of_eq HBS.out) hBq10.size) ?_; intro v4 w4 hO4 g4; have HB4 := Lib.hid (hBq10.grown g4 (Nat.le_trans (Nat.le_of_eq HBS.out) hBq10.size) (fun q e => (hCq9.out.lt q e).1)); have HO4 := Lib.hid hO4; clear hO4 g4 hCq9 hKq6 hBq10))
          go_roundw
          case rel => exact ⟨k + 1, by omega, by go_num, by rw [HNX.out]; exact HO4, HB4⟩
          case measure => simp [intOf]; omega
        · obtain rfl : k = n := by omega
          have e : Hid (preT f 0 ++ (f.ins.take k).flatten = preT f 1) := by
            show _ = _
            rw [HN.out, List.take_length]
            simp [preT]
          rw [e.out] at HO
          go_wp2_with fail
          go_roundw
          case rel => exact ⟨1, by omega, by go_num, HO, HB⟩
          case measure => simp [intOf]
    by_cases hj1 : j = 1
    · subst hj1
      clear hj hj0
      rw [show (((1 : Nat)) : Int) = 1 from rfl]
      have hix := two_index1 xa ya n xc m yc
      go_wp2_with fail
      clear hix
      go_loopw [4, 34] (fun v i wr => ∃ (k : Nat), k ≤ m ∧ i = .int .i64 (k : Nat) ∧ Hid (OwnB wr base v (preT f 1 ++ (f.outs.take k).flatten)) ∧ Hid (Below base w wr)) (fun _ i _ => m - (intOf i).toNat)
      case atStart => exact ⟨0, by omega, rfl, by simpa using HO, HB⟩
      case round =>
        clear HO HB
        obtain ⟨k, hk, rfl, HO, HB⟩ := hrel
        by_cases hlt : k < m
        · obtain ⟨s, hs⟩ : ∃ s, f.outs[k]? = some s := ⟨f.outs[k]'(by rw [← HM.out]; exact hlt), List.getElem?_eq_getElem _⟩
          have HS := Lib.hid (HLY.out s (List.mem_of_getElem? hs))
          obtain ⟨g, o, rfl, hr⟩ := (HY.out _ HB.out).range k s hs
          have HR := Lib.hid hr
          have HLB : Hid ((preT f 1 ++ (f.outs.take k).flatten).length + 32 ≤ 1000000000) := by
            show _ ≤ _
            have e1 := flatten32_take f.outs k HLY.out (by rw [← HM.out]; omega)
            have e2 := preT_len f 1 HLX.out HLY.out
            have e3 := HN.out
            have e4 := HM.out
            rw [List.length_append]; omega
          have HNX : Hid (preT f 1 ++ (f.outs.take (k + 1)).flatten = preT f 1 ++ (f.outs.take k).flatten ++ s) := by
            show _ = _
            obtain ⟨h3, h4⟩ := List.getElem?_eq_some_iff.1 hs
            rw [List.take_succ_eq_append_getElem h3, h4]
            simp
          have hB := HB.out
          clear hr hs HB
          go_wp2_with (first | ((with_reducible show wpList _ _ _ (⟨some 37, _, _, _, _, _⟩ :: _) _ _); refine wpList_load_mid rfl 26 (.tmp 36) rfl g (o + k * 32) (by rfl) (s.map bv) _ HR.out Try.underlying26 rfl (by rw [List.length_map, HS.out]; exact Try.sizeHash) ?_) | ((with_reducible show wpList _ _ _ (⟨some 8, _, _, _, _, _⟩ :: _) _ _); refine wpList_allocZ rfl 26 rfl _ Try.zeroHash ?_; intro wq11 hsq12 baq13 hNq14) | ((with_reducible show wpList _ _ _ (⟨none, Op.store _ (.tmp 8) _, _, _, _, _⟩ :: _) _ _); refine wpList_storeBlk rfl 26 (.tmp 8) (.tmp 37) rfl (wr.heap.size) ((s.map bv).toArray) (by rfl) (by rfl) _ _ hNq14 (by rw [bv_size, HS.out]; exact Try.sizeHash) (by rw [bv_size, HS.out, Z32_size]) (bv_all _) ?_; intro wq15 hKq16 gq17; have bbq18 := below_new baq13 gq17 (Nat.le_refl _) baq13.size; have hCq19 := Lib.hid (HO.out.below bbq18); have hBq20 := hB.trans (bbq18.mono (Nat.le_trans (Nat.le_of_eq HBS.out) hB.size)); clear HO hB; clear bbq18 baq13 hNq14 gq17 hsq12) | ((with_reducible show wpList _ _ _ (⟨some 40, _, _, _, _, _⟩ :: _) _ _); refine wpList_append_B rfl (.tmp 38) (.tmp 39) 45 rfl base Try.underlying45 Try.infoU8 _ _ s (by rfl) hCq19.out wr.heap.size 32 32 HS.out.symm (by rfl) _ hKq16 HLB.out (Nat.le_trans (Nat.le_of_eq HBS.out) hBq20.size) ?_; intro v4 w4 hO4 g4; have HB4 := Lib.hid (hBq20.grown g4 (Nat.le_trans (Nat.le_of_eq HBS.out) hBq20.size) (fun q e => (hCq19.out.lt q e).1)); have HO4 := Lib.hid hO4; clear hO4 g4 hCq19 hKq16 hBq20))
          go_roundw
          case rel => exact ⟨k + 1, by omega, by go_num, by rw [HNX.out]; exact HO4, HB4⟩
          case measure => simp [intOf]; omega
        · obtain rfl : k = m := by omega
          have e : Hid (preT f 1 ++ (f.outs.take k).flatten = preT f 2) := by
            show _ = _
            rw [HM.out, List.take_length]
            simp [preT]
          rw [e.out] at HO
          go_wp2_with fail
          go_roundw
          case rel => exact ⟨2, by omega, by go_num, HO, HB⟩
          case measure => simp [intOf]
    obtain rfl : j = 2 := by omega
    have hcv := conv_ownB Try.underlying45 Try.underlying5 Try.underlying9 HO.out
    clear hj hj0 hj1
    go_wp2_with fail
    go_returns
    exact ⟨rfl, HB.out⟩
end Go.Proofs.Ytjlpdbaknhbgdaa
