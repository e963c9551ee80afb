/-
  book: Note.
-/
import Derived.Test.YtjlpdbaknhbgdaaBookClone
import Derived.WalkLawsBesides
import Derived.Outline
import Derived.Handy
import Derived.Deep.RegionHeld
set_option linter.unusedSimpArgs false
set_option linter.unusedVariables false
namespace Go.Proofs.Ytjlpdbaknhbgdaa
open Go.RowKit

theorem wpList_geqF {P : Program} {ops : Array Oper} {rest : List Oper} {o : Oper} {a : Act} {w : World} {Q : Exit → Act → World → Prop} (hg : o.guard = none) (t u : TypeId) (x y : Operand) (ho : o.op = .binOp .geq t x y u) (n m : Nat) (hx : a.eval x = .int .i64 (n : Int)) (hy : a.eval y = .int .i64 (m : Int)) (hlt : n < m)
    (hK : wpList P ops Q rest (a.put o.dst (.bool false)) w) : wpList P ops Q (o :: rest) a w := by
  refine wpList_plain hg fun K' hK' => ?_
  unfold Oper.wp
  have h1 : false = decide ((n : Int) ≥ (m : Int)) := by simp; omega
  rw [h1] at hK
  simp [execOp, ho, hx, hy, Result.andThen]
  exact hK' _ _ hK
def NT (t : TypeId) : Prop := t = 64 ∨ t = 68 ∨ t = 3
def MM (sm nm q : Nat) : Prop := q = sm ∨ q = nm
theorem HashOwn.weak {w : World} {b1 b2 : Nat} {e : TypeId} {v : Value} {l : List HsT} (h : HashOwn w b1 e v l) (hb : b2 ≤ b1) : HashOwn w b2 e v l := ⟨h.1, own_weak h.2 hb⟩
/-- The needs, when k of the new fact's secrets have been noted. -/
def ndT (fs : List FactT) (f : FactT) (k : Nat) (h : List UInt8) : List Nat := needsT fs h ++ List.replicate ((f.ins.take k).count h) fs.length
theorem ndT_zero (fs : List FactT) (f : FactT) : ndT fs f 0 = needsT fs := by funext h; simp [ndT]
theorem ndT_succ (fs : List FactT) (f : FactT) (k : Nat) (s : List UInt8) (hs : f.ins[k]? = some s) (y : List UInt8) : (if y = s then ndT fs f k s ++ [fs.length] else ndT fs f k y) = ndT fs f (k + 1) y := by
  obtain ⟨h1, h2⟩ := List.getElem?_eq_some_iff.1 hs
  unfold ndT
  rw [List.take_succ_eq_append_getElem h1, h2, List.count_append]
  by_cases e : y = s
  · subst e
    rw [if_pos rfl, List.append_assoc]
    congr 1
    rw [List.count_singleton_self, ← List.replicate_append_replicate]
    rfl
  · rw [if_neg e]
    have : ([s] : List (List UInt8)).count y = 0 := List.count_eq_zero.2 (by simpa using e)
    rw [this, Nat.add_zero]
theorem ndT_all (fs : List FactT) (f : FactT) (h : List UInt8) : ndT fs f f.ins.length h = needsT (fs ++ [f]) h := by
  unfold ndT
  rw [List.take_length, needsT_snoc]
theorem ndT_len (fs : List FactT) (f : FactT) (k : Nat) (h : List UInt8) (hs : (fs.flatMap (·.ins)).length ≤ 10000000) (hl : f.ins.length ≤ 1000000) : (ndT fs f k h).length ≤ 100000000 := by
  unfold ndT
  have e1 : (needsT fs h).length ≤ (fs.flatMap (·.ins)).length := needs1_len h fs 0
  have e2 : (f.ins.take k).count h ≤ (f.ins.take k).length := List.count_le_length
  rw [List.length_append, List.length_replicate]
  rw [List.length_take] at e2
  omega
/-- append of one fact to the book's row. -/
theorem wp_factAppend {A : Nat → Prop} {P : Program} {w : World} {o : Oper} {a : Act} {K : Act → World → Prop} {Q : Exit → Act → World → Prop} (s x : Operand) (t : TypeId) (ho : o.op = .call { callee := .builtin .append, args := #[s, x], argTypes := #[t, t] }) (ht : P.underlying t = some (.slice 68))
    (hi : (P.info? 68).map (fun i => (i.zero, i.size, i.bytes)) = some (some (.agg #[.slice none 0 0, .slice none 0 0]), 2, 48)) (base : Nat) (fs : List FactT) (f : FactT) (v : Value) (hs : a.eval s = v) (hn : FactsOwn A w base v fs) (v2 v3 : Value) (h2 : HashOwn w base 26 v2 f.ins) (h3 : HashOwn w base 26 v3 f.outs)
    (g c : Nat) (hx : a.eval x = .slice (some ⟨g, 0, none⟩) 1 c) (e2 : TypeId) (hg : Blk w g #[v2, v3] e2) (hlen : fs.length ≤ 10000000) (hbase : base ≤ w.heap.size) (hT : 26 ≠ 68) (n2 : NotIn A v2) (n3 : NotIn A v3) (hAw : ∀ q, A q → q < w.heap.size)
    (hK : ∀ v' w', FactsOwn A w' base v' (fs ++ [f]) → w.grownBy w' v.ownBlock → Frm A (fun t => t = 68 ∨ t = 64) (fun _ => False) w w' → (∀ q, v.ownBlock = some q → base ≤ q) → K (a.put o.dst v') w') : o.wp P a w K Q := by
  obtain ⟨cs, h4, h5, h6, h7⟩ := hn
  obtain ⟨i, hi1, hz, hsz, hby⟩ := info_parts hi
  refine wp_append_own3 s x t ho base 68 i _ 2 48 ht hi1 hz hsz hby rfl (by decide) v _ _ hs h4 ⟨g, 0, none⟩ 1 c [v2, v3] hx rfl (fun j u hj => ?_) (fun u hu => ?_) (by unfold maxLen; omega) (by omega) hbase fun v' w' g1 g2 g3 => ?_
  · rw [Addr.add_lit, Nat.zero_add]
    exact hg.cell j u (by rw [← List.getElem?_toArray] at hj; exact hj)
  · rcases List.mem_cons.1 hu with rfl | hu
    · exact own_one h2.2
    · rw [List.mem_singleton.1 hu]; exact own_one h3.2
  have hfr : Frm A (fun t => t = 68 ∨ t = 64) (fun _ => False) w w' := Frm.grownOwn h4 g2 (.inl rfl) h7
  have hTT : ¬ ((26 : TypeId) = 68 ∨ (26 : TypeId) = 64) := by decide
  refine hK v' w' ⟨cs ++ [(v2, v3)], ?_, by simp [h5], fun i g p hi hp => ?_, fun q hq ha => (g3 q hq).elim (fun e => h7 q e ha) (fun e => by have := hAw q ha; omega)⟩ g2 hfr (fun q hq => (h4.lt q hq).1)
  · rw [List.flatMap_append, List.length_append]; exact g1
  · by_cases hlt : i < fs.length
    · rw [List.getElem?_append_left hlt] at hi
      rw [List.getElem?_append_left (by omega)] at hp
      obtain ⟨⟨e1, e2⟩, e3⟩ := h6 i g p hi hp
      exact ⟨⟨e1.frm hfr hTT, e2.frm hfr hTT⟩, e3⟩
    · have e : i = fs.length := by
        have := (List.getElem?_eq_some_iff.1 hi).1
        simp at this; omega
      subst e
      obtain rfl : f = g := by simpa using hi
      rw [← h5] at hp
      obtain rfl : (v2, v3) = p := by simpa using hp
      exact ⟨⟨h2.frm hfr hTT, h3.frm hfr hTT⟩, n2, n3⟩
theorem FactsOwn.ne_blk {A : Nat → Prop} {w : World} {base : Nat} {v : Value} {fs : List FactT} (h : FactsOwn A w base v fs) {q : Nat} {cs : Array Value} {t : TypeId} (hq : Blk w q cs t) (he : 68 ≠ t) : v.ownBlock ≠ some q := by
  obtain ⟨cs0, ho, _⟩ := h
  exact own_ne ho hq he
theorem FactsOwn.below {A : Nat → Prop} {w w' : World} {base : Nat} {v : Value} {fs : List FactT} (h : FactsOwn A w base v fs) (b : Below w.heap.size w w') : FactsOwn A w' base v fs := h.frm (A' := fun _ => False) (T := fun _ => False) (M := fun _ => False) (Frm.ofBelow b) id id
theorem FactsOwn.drew {A : Nat → Prop} {w : World} {base : Nat} {v : Value} {fs : List FactT} (h : FactsOwn A w base v fs) : FactsOwn A w.drew base v fs := h.below (below_drewN (Below.refl _ _) 1)
theorem FactsOwn.cells {A : Nat → Prop} {w : World} {base : Nat} {v : Value} {fs : List FactT} (h : FactsOwn A w base v fs) : v.cells = #[v] ∧ v.oneCell' = true := by
  obtain ⟨cs0, ho, _⟩ := h
  exact ⟨own_cells ho, own_one ho⟩
theorem FactsOwn.grown {A : Nat → Prop} {w w' : World} {base : Nat} {v : Value} {fs : List FactT} {q : Nat} {cs : Array Value} (h : FactsOwn A w base v fs) (gr : w.grownBy w' (some q)) (hne : v.ownBlock ≠ some q) (hq : Blk w q cs 64) : FactsOwn A w' base v fs := by
  obtain ⟨cs0, ho, h2, h3, h4⟩ := h
  have hfr : Frm (fun _ => False) (fun t => t = 64) (fun _ => False) w w' := Frm.grownBlk hq gr rfl id
  exact ⟨cs0, ho.kept gr (.inr hne), h2, fun i g p hi hp => ⟨⟨(h3 i g p hi hp).1.1.frm hfr (by decide), (h3 i g p hi hp).1.2.frm hfr (by decide)⟩, (h3 i g p hi hp).2⟩, h4⟩
theorem seenLook_snoc (fs : List FactT) (f : FactT) (x : List UInt8) : (if x = markB f then some (Value.bool true) else seenLook fs x) = seenLook (fs ++ [f]) x := by
  unfold seenLook
  by_cases e : x = markB f
  · subst e; simp
  · by_cases e2 : x ∈ fs.map markB
    · rw [if_neg e, if_pos e2, if_pos (by rw [List.map_append]; exact List.mem_append_left _ e2)]
    · rw [if_neg e, if_neg e2, if_neg (by rw [List.map_append, List.mem_append]; simp [e]; simpa using e2)]
theorem Try.sizeFs : (Try.prog.info? 62).map (·.size) = some 1 := by kernel_rfl
theorem NoteEmpty_calls (pv x y : Value) (f : FactT) (w : World) (hy : HashesAt w y f.outs) (ho : f.outs = []) (hx : ∃ ao n c, x = .slice ao n c) :
    Calls Try.prog 26 #[pv, .agg #[x, y]] w fun e w' => e = .returned (.int .i64 1) ∧ Below w.heap.size w w' := by
  obtain ⟨ya, yc, rfl, -⟩ := hy.slice
  obtain ⟨xa, xn, xc, rfl⟩ := hx
  rw [ho]
  clear hy ho
  obtain ⟨base, hbase⟩ : ∃ base, base = w.heap.size := ⟨_, rfl⟩
  rw [← hbase]
  go_enter Try.func26, Try.ntmps26
  go_wp2_with (first | ((with_reducible show wpList _ _ _ (⟨some 3, _, _, _, _, _⟩ :: _) _ _); refine wpList_boxA rfl 68 (.tmp 1) rfl #[.slice xa xn xc, .slice ya 0 yc] (by rfl) ?_; intro w1 b1 n1) | ((with_reducible show wpList _ _ _ (⟨some 9, _, _, _, _, _⟩ :: _) _ _); refine wpList_load1 rfl 23 (.tmp 8) rfl w.heap.size 1 (by rfl) (.slice ya 0 yc) _ (n1.cell 1 _ rfl) Try.underlying23 rfl ?_))
  go_returns
  exact ⟨rfl, by rw [hbase]; exact b1⟩
theorem NoteNil_calls4 (x y : Value) (f : FactT) (w : World) (hy : HashesAt w y f.outs) (ho : f.outs ≠ []) (hx : ∃ ao n c, x = .slice ao n c) (hl : f.outs.length ≤ 1000000) :
    Calls Try.prog 26 #[.pointer none, .agg #[x, y]] w fun e w' => e = .returned (.int .i64 0) ∧ Below w.heap.size w w' := by
  obtain ⟨ya, yc, rfl, -⟩ := hy.slice
  obtain ⟨xa, xn, xc, rfl⟩ := hx
  obtain ⟨m, hm⟩ : ∃ m, f.outs.length = m + 1 := ⟨f.outs.length - 1, by have := List.length_pos_iff.2 ho; omega⟩
  rw [hm] at hl ⊢
  clear hy ho hm
  obtain ⟨base, hbase⟩ : ∃ base, base = w.heap.size := ⟨_, rfl⟩
  rw [← hbase]
  go_enter Try.func26, Try.ntmps26
  go_wp2_with (first | ((with_reducible show wpList _ _ _ (⟨some 3, _, _, _, _, _⟩ :: _) _ _); refine wpList_boxA rfl 68 (.tmp 1) rfl #[.slice xa xn xc, .slice ya (m + 1) yc] (by rfl) ?_; intro w1 b1 n1) | ((with_reducible show wpList _ _ _ (⟨some 9, _, _, _, _, _⟩ :: _) _ _); refine wpList_load1 rfl 23 (.tmp 8) rfl w.heap.size 1 (by rfl) (.slice ya (m + 1) yc) _ (n1.cell 1 _ rfl) Try.underlying23 rfl ?_))
  go_returns
  exact ⟨rfl, by rw [hbase]; exact b1⟩
set_option maxHeartbeats 16000000 in
set_option maxRecDepth 100000 in
theorem NoteSeen_calls {A : Nat → Prop} (x y : Value) (f : FactT) (base b sm nm dm : Nat) (fs : List FactT) (names : List UInt8 → Option Value) (w : World) (hbk : BookIs A w base b sm nm dm fs names)
    (hxy : ∀ w', Frm A NT (MM sm nm) w w' → Below base w w' → HashesAt w' x f.ins ∧ HashesAt w' y f.outs) (hf : FOk f) (hfs : ∀ g ∈ fs, FOk g) (ho : f.outs ≠ []) (hn : fs.length < 1048576) (hsum : (fs.flatMap (·.ins)).length ≤ 10000000) (hbw : base ≤ w.heap.size) (hnew : f ∈ fs) (hAw : ∀ q, A q → q < w.heap.size) :
    Calls Try.prog 26 #[.pointer (some ⟨b, 0, none⟩), .agg #[x, y]] w fun e w' => e = .returned (.int .i64 0) ∧ Below w.heap.size w w' := by
  obtain ⟨hx0, hy0⟩ := hxy w (Frm.refl _) (Below.refl _ _)
  obtain ⟨xa, xc, rfl, hxc⟩ := hx0.slice
  obtain ⟨ya, yc, rfl, hyc⟩ := hy0.slice
  have HX0 := Lib.hid hx0
  have HY0 := Lib.hid hy0
  have HXY := Lib.hid hxy
  have HMK := Lib.hid (mark_calls _ _ f w hx0 hy0 hf.li hf.lo)
  obtain ⟨p, hp⟩ : ∃ p, p = f.ins.length := ⟨_, rfl⟩
  obtain ⟨m, hm⟩ : ∃ m, f.outs.length = m + 1 := ⟨f.outs.length - 1, by have := List.length_pos_iff.2 ho; omega⟩
  have HLO := Lib.hid hf.lo
  have hml := hf.lo
  have hpl := hf.li
  rw [← hp] at HXY hxc hx0 HX0 HMK hpl ⊢
  rw [hm] at HXY hyc hy0 HY0 HMK hml ⊢
  have HP := Lib.hid hp
  have HM := Lib.hid hm
  have HF := Lib.hid hf
  have HFS := Lib.hid hfs
  have HSUM := Lib.hid hsum
  have HNEW := Lib.hid hnew
  have HBI := Lib.hid hbk
  obtain ⟨⟨fv, hk, hfo⟩, ⟨N3, h3⟩, h4, ⟨N5, h5⟩, hab, hapt, hout⟩ := hbk
  have HAO := Lib.hid hout
  have HAW := Lib.hid hAw
  clear hout hAw
  obtain ⟨cs0, ho0, hcs0, -⟩ := id hfo
  obtain ⟨fao, fc, rfl⟩ := own_slice ho0
  have HFLT : Hid (∀ q, (Value.slice fao fs.length fc).ownBlock = some q → q < w.heap.size) := fun q hq => (ho0.lt q hq).2
  obtain ⟨n, hnn⟩ : ∃ n, n = fs.length := ⟨_, rfl⟩
  have HN := Lib.hid hnn
  have HSTR : Hid (strOk (markB f)) := by
    show _ ≤ _
    have e1 := flatten32_len f.ins hf.ins
    have e2 := flatten32_len f.outs hf.outs
    have e3 := hf.li
    have e4 := hf.lo
    have e5 : (markB f).length = 4 + (f.ins.flatten.length + f.outs.flatten.length) := by simp only [markB, List.length_append]; rfl
    rw [e5]
    unfold maxLen
    omega
  rw [← hnn] at hk HFLT hn
  have HNB := Lib.hid hn
  have HLK : Hid ((seenLook fs (markB f)).getD (.bool false) = .bool true) := by
    show _ = _
    unfold seenLook
    rw [if_pos ((mark_mem hf hfs).2 hnew)]
    rfl
  have HSN := Lib.hid h3
  have HFO : Hid (FactsOwn A w base (.slice fao n fc) fs) := by show FactsOwn _ _ _ _ _; rw [hnn]; exact hfo
  have HAB := Lib.hid hab
  have HAP := Lib.hid hapt
  have HND := Lib.hid h4
  have HDM := Lib.hid h5
  clear hn
  clear hx0 hy0 hxy hp hm hf hfs ho hsum hnew hfo ho0 hcs0 h3 h4 h5 hab hapt hnn
  have hB0 := Below.refl base w
  go_enter Try.func26, Try.ntmps26
  go_wp2_with (first | ((with_reducible show wpList _ _ _ (⟨some 3, _, _, _, _, _⟩ :: _) _ _); refine wpList_boxA rfl 68 (.tmp 1) rfl #[.slice xa p xc, .slice ya (m + 1) yc] (by rfl) ?_; intro w1 b1 n1; have HX1 := Lib.hid (HX0.out.below b1); have HY1 := Lib.hid (HY0.out.below b1); have HB1 := Lib.hid b1; have ltq1 : b < w.heap.size := hk.lt; have hCq2 := hk.below b1 hk.lt; have hCq3 := Lib.hid (HSN.out.below b1); have hCq4 := Lib.hid (HFO.out.below b1); have hCq5 := Lib.hid (HND.out.below b1); have hCq6 := Lib.hid (HDM.out.below b1); have hBq7 := hB0.trans (b1.mono (Nat.le_trans hbw hB0.size)); clear hk HSN HFO HND HDM hB0; clear b1) | ((with_reducible show wpList _ _ _ (⟨some 9, _, _, _, _, _⟩ :: _) _ _); refine wpList_load1 rfl 23 (.tmp 8) rfl (w.heap.size) 1 (by rfl) _ _ (n1.cell 1 _ rfl) Try.underlying23 rfl ?_) | ((with_reducible show wpList _ _ _ (⟨some 14, _, _, _, _, _⟩ :: _) _ _); refine wpList_load_mid rfl 68 (.tmp 3) rfl w.heap.size 0 (by rfl) [.slice xa p xc, .slice ya (m + 1) yc] _ (blk_rangeP n1) Try.underlying68 rfl Try.sizeFact ?_))
  refine (mark_calls _ _ f w1 HX1.out HY1.out HF.out.li HF.out.lo).mono ?_
  rintro e w2 ⟨rfl, b2⟩
  have HBE := Lib.hid (HB1.out.trans (b2.mono HB1.out.size))
  have ltq8 : b < w1.heap.size := hCq2.lt
  have ltq9 : w.heap.size < w1.heap.size := n1.lt
  have hCq10 := hCq2.below b2 hCq2.lt
  have hCq11 := Lib.hid (hCq3.out.below b2)
  have hCq12 := Lib.hid (hCq4.out.below b2)
  have hCq13 := Lib.hid (hCq5.out.below b2)
  have hCq14 := Lib.hid (hCq6.out.below b2)
  have hCq15 := n1.below b2 n1.lt
  have hBq16 := hBq7.trans (b2.mono (Nat.le_trans hbw hBq7.size))
  clear hCq2 hCq3 hCq4 hCq5 hCq6 n1 hBq7
  clear b2 HX1 HY1 HB1 HMK
  go_wp2_with (first | ((with_reducible show wpList _ _ _ (⟨some 20, _, _, _, _, _⟩ :: _) _ _); refine wpList_load1 rfl 59 (.tmp 19) rfl (b) 1 (by rfl) _ _ (hCq10.cell 1 _ rfl) Try.underlying59 rfl ?_) | ((with_reducible show wpList _ _ _ (⟨some 22, _, _, _, _, _⟩ :: _) _ _); refine wpList_lookV rfl Try.strKey (.tmp 20) (.tmp 21) 59 4 rfl Try.underlying59 (.bool false) (Try.zeroBool _) sm _ _ (by rfl) hCq11.out (markB f) HSTR.out (by rfl) (.bool true) HLK.out ?_))
  go_returns
  exact ⟨rfl, HBE.out⟩
set_option maxHeartbeats 16000000 in
set_option maxRecDepth 100000 in
theorem NoteNew_calls {A : Nat → Prop} (x y : Value) (f : FactT) (base b sm nm dm : Nat) (fs : List FactT) (names : List UInt8 → Option Value) (w : World) (hbk : BookIs A w base b sm nm dm fs names)
    (hxy : ∀ w', Frm A NT (MM sm nm) w w' → Below base w w' → HashesAt w' x f.ins ∧ HashesAt w' y f.outs) (hf : FOk f) (hfs : ∀ g ∈ fs, FOk g) (ho : f.outs ≠ []) (hn : fs.length < 1048576) (hsum : (fs.flatMap (·.ins)).length ≤ 10000000) (hbw : base ≤ w.heap.size) (hnew : f ∉ fs) (hAw : ∀ q, A q → q < w.heap.size) :
    Calls Try.prog 26 #[.pointer (some ⟨b, 0, none⟩), .agg #[x, y]] w fun e w' => e = .returned (.int .i64 0) ∧ BookIs A w' base b sm nm dm (fs ++ [f]) names ∧ Frm A NT (MM sm nm) w w' ∧ Below base w w' := by
  obtain ⟨hx0, hy0⟩ := hxy w (Frm.refl _) (Below.refl _ _)
  obtain ⟨xa, xc, rfl, hxc⟩ := hx0.slice
  obtain ⟨ya, yc, rfl, hyc⟩ := hy0.slice
  have HX0 := Lib.hid hx0
  have HY0 := Lib.hid hy0
  have HXY := Lib.hid hxy
  have HMK := Lib.hid (mark_calls _ _ f w hx0 hy0 hf.li hf.lo)
  obtain ⟨p, hp⟩ : ∃ p, p = f.ins.length := ⟨_, rfl⟩
  obtain ⟨m, hm⟩ : ∃ m, f.outs.length = m + 1 := ⟨f.outs.length - 1, by have := List.length_pos_iff.2 ho; omega⟩
  have HLO := Lib.hid hf.lo
  have hml := hf.lo
  have hpl := hf.li
  rw [← hp] at HXY hxc hx0 HX0 HMK hpl ⊢
  rw [hm] at HXY hyc hy0 HY0 HMK hml ⊢
  have HP := Lib.hid hp
  have HM := Lib.hid hm
  have HF := Lib.hid hf
  have HFS := Lib.hid hfs
  have HSUM := Lib.hid hsum
  have HNEW := Lib.hid hnew
  have HBI := Lib.hid hbk
  obtain ⟨⟨fv, hk, hfo⟩, ⟨N3, h3⟩, h4, ⟨N5, h5⟩, hab, hapt, hout⟩ := hbk
  have HAO := Lib.hid hout
  have HAW := Lib.hid hAw
  clear hout hAw
  obtain ⟨cs0, ho0, hcs0, -⟩ := id hfo
  obtain ⟨fao, fc, rfl⟩ := own_slice ho0
  have HFLT : Hid (∀ q, (Value.slice fao fs.length fc).ownBlock = some q → q < w.heap.size) := fun q hq => (ho0.lt q hq).2
  obtain ⟨n, hnn⟩ : ∃ n, n = fs.length := ⟨_, rfl⟩
  have HN := Lib.hid hnn
  have HSTR : Hid (strOk (markB f)) := by
    show _ ≤ _
    have e1 := flatten32_len f.ins hf.ins
    have e2 := flatten32_len f.outs hf.outs
    have e3 := hf.li
    have e4 := hf.lo
    have e5 : (markB f).length = 4 + (f.ins.flatten.length + f.outs.flatten.length) := by simp only [markB, List.length_append]; rfl
    rw [e5]
    unfold maxLen
    omega
  rw [← hnn] at hk HFLT hn
  have HNB := Lib.hid hn
  have HLK : Hid ((seenLook fs (markB f)).getD (.bool false) = .bool false) := by
    show _ = _
    unfold seenLook
    rw [if_neg (fun e => hnew ((mark_mem hf hfs).1 e))]
    rfl
  have HSN := Lib.hid h3
  have HFO : Hid (FactsOwn A w base (.slice fao n fc) fs) := by show FactsOwn _ _ _ _ _; rw [hnn]; exact hfo
  have HAB := Lib.hid hab
  have HAP := Lib.hid hapt
  have HND := Lib.hid h4
  have HDM := Lib.hid h5
  clear hn
  clear hx0 hy0 hxy hp hm hf hfs ho hsum hnew hfo ho0 hcs0 h3 h4 h5 hab hapt hnn
  have hB0 := Below.refl base w
  go_enter Try.func26, Try.ntmps26
  go_wp2_with (first | ((with_reducible show wpList _ _ _ (⟨some 3, _, _, _, _, _⟩ :: _) _ _); refine wpList_boxA rfl 68 (.tmp 1) rfl #[.slice xa p xc, .slice ya (m + 1) yc] (by rfl) ?_; intro w1 b1 n1; have HX1 := Lib.hid (HX0.out.below b1); have HY1 := Lib.hid (HY0.out.below b1); have HB1 := Lib.hid b1; have ltq17 : b < w.heap.size := hk.lt; have hCq18 := hk.below b1 hk.lt; have hCq19 := Lib.hid (HSN.out.below b1); have hCq20 := Lib.hid (HFO.out.below b1); have hCq21 := Lib.hid (HND.out.below b1); have hCq22 := Lib.hid (HDM.out.below b1); have hBq23 := hB0.trans (b1.mono (Nat.le_trans hbw hB0.size)); clear hk HSN HFO HND HDM hB0; clear b1) | ((with_reducible show wpList _ _ _ (⟨some 9, _, _, _, _, _⟩ :: _) _ _); refine wpList_load1 rfl 23 (.tmp 8) rfl (w.heap.size) 1 (by rfl) _ _ (n1.cell 1 _ rfl) Try.underlying23 rfl ?_) | ((with_reducible show wpList _ _ _ (⟨some 14, _, _, _, _, _⟩ :: _) _ _); refine wpList_load_mid rfl 68 (.tmp 3) rfl w.heap.size 0 (by rfl) [.slice xa p xc, .slice ya (m + 1) yc] _ (blk_rangeP n1) Try.underlying68 rfl Try.sizeFact ?_))
  refine (mark_calls _ _ f w1 HX1.out HY1.out HF.out.li HF.out.lo).mono ?_
  rintro e w2 ⟨rfl, b2⟩
  have HBE := Lib.hid (HB1.out.trans (b2.mono HB1.out.size))
  have ltq24 : b < w1.heap.size := hCq18.lt
  have ltq25 : w.heap.size < w1.heap.size := n1.lt
  have hCq26 := hCq18.below b2 hCq18.lt
  have hCq27 := Lib.hid (hCq19.out.below b2)
  have hCq28 := Lib.hid (hCq20.out.below b2)
  have hCq29 := Lib.hid (hCq21.out.below b2)
  have hCq30 := Lib.hid (hCq22.out.below b2)
  have hCq31 := n1.below b2 n1.lt
  have hBq32 := hBq23.trans (b2.mono (Nat.le_trans hbw hBq23.size))
  clear hCq18 hCq19 hCq20 hCq21 hCq22 n1 hBq23
  clear b2 HX1 HY1 HB1 HMK
  go_wp2_with (first | ((with_reducible show wpList _ _ _ (⟨some 20, _, _, _, _, _⟩ :: _) _ _); refine wpList_load1 rfl 59 (.tmp 19) rfl (b) 1 (by rfl) _ _ (hCq26.cell 1 _ rfl) Try.underlying59 rfl ?_) | ((with_reducible show wpList _ _ _ (⟨some 22, _, _, _, _, _⟩ :: _) _ _); refine wpList_lookV rfl Try.strKey (.tmp 20) (.tmp 21) 59 4 rfl Try.underlying59 (.bool false) (Try.zeroBool _) sm _ _ (by rfl) hCq27.out (markB f) HSTR.out (by rfl) (.bool false) HLK.out ?_) | ((with_reducible show wpList _ _ _ (⟨some 27, _, _, _, _, _⟩ :: _) _ _); refine wpList_load1 rfl 62 (.tmp 26) rfl (b) 0 (by rfl) _ _ (hCq26.cell 0 _ rfl) Try.underlying62 rfl ?_) | ((with_reducible show wpList _ _ _ (⟨some 29, _, _, _, _, _⟩ :: _) _ _); refine wpList_geqF rfl _ _ (.tmp 28) (.const (.int .i64 1048576)) rfl n 1048576 (by rfl) (by rfl) HNB.out ?_) | ((with_reducible show wpList _ _ _ (⟨some 33, _, _, _, _, _⟩ :: _) _ _); refine wpList_load1 rfl 59 (.tmp 32) rfl (b) 1 (by rfl) _ _ (hCq26.cell 1 _ rfl) Try.underlying59 rfl ?_) | ((with_reducible show wpList _ _ _ (⟨none, Op.mapUpdate _ _ _ _, _, _, _, _⟩ :: _) _ _); refine wpList_upd rfl Try.strKey (.tmp 33) (.tmp 34) (.const (.bool true)) 59 4 rfl Try.underlying59 sm _ _ (by rfl) hCq27.out (markB f) HSTR.out (by rfl) (.bool true) (by rfl) ?_; intro w3 hm3 g3; have f3 : Frm A (fun _ => False) (fun q => q = sm) w2 w3 := Frm.grownMap hCq27.out g3 rfl HAO.out.2.1; have hk3 := hCq26.frm f3 id; have hf3 := hCq31.frm f3 id; have HFO3 := Lib.hid (hCq28.out.frm f3 id id); have HND3 := Lib.hid (hCq29.out.frm f3 id (fun e => HAP.out.1 e.symm)); have HDM3 := Lib.hid (hCq30.out.frm f3 (fun e => HAP.out.2.1 e.symm)); have HSN3 := Lib.hid hm3; have hB3 := hBq32.grown g3 (Nat.le_trans hbw hBq32.size) (fun q e => by cases e; exact HAB.out.2.1); have HFR3 : Hid (Frm A NT (MM sm nm) w w3) := (Frm.ofBelow HBE.out).trans (f3.mono (fun _ e => e.elim) (fun _ e => .inl e)); clear hm3 g3 f3 hCq26 hCq27 hCq28 hCq29 hCq30 hCq31 hBq32) | ((with_reducible show wpList _ _ _ (⟨some 36, _, _, _, _, _⟩ :: _) _ _); refine wpList_load1 rfl 23 (.tmp 35) rfl (w.heap.size) 0 (by rfl) _ _ (hf3.cell 0 _ rfl) Try.underlying23 rfl ?_))
  have HB3 := Lib.hid hB3
  have hbw3 : base ≤ w3.heap.size := Nat.le_trans hbw hB3.size
  go_loopw [38] (fun i wr => ∃ (k : Nat), k ≤ p ∧ i = .int .i64 (k : Nat) ∧ Hid (NeedsIs A wr base nm (ndT fs f k)) ∧ Hid (Frm A (fun t => t = 3) (fun q => q = nm) w3 wr) ∧ Hid (Below base w3 wr)) (fun i _ => p - (intOf i).toNat)
  case atStart => exact ⟨0, by omega, rfl, by rw [ndT_zero]; exact HND3, Lib.hid (Frm.refl _), Lib.hid (Below.refl _ _)⟩
  case round =>
    obtain ⟨k, hkp, rfl, HND, HFR, HB⟩ := hrel
    have hFRw : Hid (Frm A NT (MM sm nm) w wr) := HFR3.out.trans (HFR.out.mono (fun _ e => .inr (.inr e)) (fun _ e => .inr e))
    have hBw : Hid (Below base w wr) := HB3.out.trans HB.out
    by_cases hlt : k < p
    · obtain ⟨s, hs⟩ : ∃ s, f.ins[k]? = some s := ⟨f.ins[k]'(by rw [← HP.out]; exact hlt), List.getElem?_eq_getElem _⟩
      have HS : Hid (s.length = 32) := HF.out.ins s (List.mem_of_getElem? hs)
      obtain ⟨g, o, rfl, hr⟩ := (HXY.out _ hFRw.out hBw.out).1.range k s hs
      have HR := Lib.hid hr
      have HSK := Lib.hid hs
      have hkr := hk3.frm HFR.out (by decide)
      have hbr := hBw.out
      clear hr hs hFRw hBw
      have hbq := HB.out
      clear HB
      go_wp2_with (first | ((with_reducible show wpList _ _ _ (⟨some 41, _, _, _, _, _⟩ :: _) _ _); refine wpList_load_mid rfl 26 (.tmp 40) rfl g (o + k * 32) (by rfl) (s.map bv) _ HR.out Try.underlying26 rfl (by rw [List.length_map, HS.out]; exact Try.sizeHash) ?_) | ((with_reducible show wpList _ _ _ (⟨some 7, _, _, _, _, _⟩ :: _) _ _); refine wpList_allocZ rfl 26 rfl _ Try.zeroHash ?_; intro wq33 hsq34 baq35 hNq36) | ((with_reducible show wpList _ _ _ (⟨none, Op.store _ (.tmp 7) _, _, _, _, _⟩ :: _) _ _); refine wpList_storeBlk rfl 26 (.tmp 7) (.tmp 41) rfl (wr.heap.size) ((s.map bv).toArray) (by rfl) (by rfl) _ _ hNq36 (by rw [bv_size, HS.out]; exact Try.sizeHash) (by rw [bv_size, HS.out, Z32_size]) (bv_all _) ?_; intro wq37 hKq38 gq39; have bbq40 := below_new baq35 gq39 (Nat.le_refl _) baq35.size; have ltq41 : b < wr.heap.size := hkr.lt; have hCq42 := hkr.below bbq40 hkr.lt; have hCq43 := Lib.hid (HND.out.below bbq40); have hCq44 := Lib.hid (HFR.out.below bbq40); have hBq45 := hbq.trans (bbq40.mono (Nat.le_trans hbw3 hbq.size)); clear hkr HND HFR hbq; clear bbq40 baq35 hNq36 gq39 hsq34))
      refine wp_region_held_drew (S := fun x => Blk x (b) #[.slice fao n fc, .map (some sm), .map (some nm), .map (some dm)] 64 ∧ Blk x (wr.heap.size) (s.map bv).toArray 26 ∧ Below base w3 x) (by kernel_rfl) ⟨hCq42.drew, hKq38.drew, below_drewN hBq45 1⟩ (fun hSq46 => ?_)
      have hHq47 := Lib.hid (hCq43.out.drew)
      have hHq48 := Lib.hid (hCq44.out.drew)
      refine wpAnyH_take (i := 0) (v := Value.pointer (some ⟨b, 0, none⟩)) rfl (by kernel_rfl) (by kernel_rfl) (by kernel_rfl) (fun _ _ _ h => h) (Or.inl ⟨by rfl, fun x hx => by go_simp⟩) hSq46 ?_
      simp only [Act.put, List.getElem_toArray, List.getElem_cons_zero, List.getElem_cons_succ, List.setIfInBounds_toArray, List.set_cons_zero, List.set_cons_succ]
      refine wpAnyH_take (i := 1) (v := Value.pointer (some ⟨b, 0, none⟩)) rfl (by kernel_rfl) (by kernel_rfl) (by kernel_rfl) (fun _ _ _ h => h) (Or.inl ⟨by rfl, fun x hx => by go_simp⟩) hSq46 ?_
      simp only [Act.put, List.getElem_toArray, List.getElem_cons_zero, List.getElem_cons_succ, List.setIfInBounds_toArray, List.set_cons_zero, List.set_cons_succ]
      refine wpAnyH_take (i := 2) (v := Value.pointer (some ⟨b, 2, none⟩)) rfl (by kernel_rfl) (by kernel_rfl) (by kernel_rfl) (fun _ _ _ h => h) (Or.inl ⟨by rfl, fun x hx => by go_simp⟩) hSq46 ?_
      simp only [Act.put, List.getElem_toArray, List.getElem_cons_zero, List.getElem_cons_succ, List.setIfInBounds_toArray, List.set_cons_zero, List.set_cons_succ]
      refine wpAnyH_take (i := 3) (v := .map (some nm)) rfl (by kernel_rfl) (by kernel_rfl) (by kernel_rfl) (fun _ _ _ h => h) (Or.inl ⟨by rfl, fun x hx => by have hc := hx.1.cell 2 _ rfl; go_simp⟩) hSq46 ?_
      simp only [Act.put, List.getElem_toArray, List.getElem_cons_zero, List.getElem_cons_succ, List.setIfInBounds_toArray, List.set_cons_zero, List.set_cons_succ]
      refine wpAnyH_take (i := 4) rfl (by kernel_rfl) (by kernel_rfl) (by kernel_rfl) (fun _ _ _ h => h) (yieldsIf_load_mid (by rfl) 26 (.tmp 7) rfl (wr.heap.size) 0 (by rfl) (s.map bv) _ (fun x hx => blk_rangeP hx.2.1) Try.underlying26 rfl (by rw [List.length_map, HS.out]; exact Try.sizeHash)) hSq46 ?_
      simp only [Act.put, List.getElem_toArray, List.getElem_cons_zero, List.getElem_cons_succ, List.setIfInBounds_toArray, List.set_cons_zero, List.set_cons_succ]
      refine wpAnyH_take (i := 5) (v := Value.pointer (some ⟨b, 0, none⟩)) rfl (by kernel_rfl) (by kernel_rfl) (by kernel_rfl) (fun _ _ _ h => h) (Or.inl ⟨by rfl, fun x hx => by go_simp⟩) hSq46 ?_
      simp only [Act.put, List.getElem_toArray, List.getElem_cons_zero, List.getElem_cons_succ, List.setIfInBounds_toArray, List.set_cons_zero, List.set_cons_succ]
      refine wpAnyH_take (i := 6) (v := Value.pointer (some ⟨b, 0, none⟩)) rfl (by kernel_rfl) (by kernel_rfl) (by kernel_rfl) (fun _ _ _ h => h) (Or.inl ⟨by rfl, fun x hx => by go_simp⟩) hSq46 ?_
      simp only [Act.put, List.getElem_toArray, List.getElem_cons_zero, List.getElem_cons_succ, List.setIfInBounds_toArray, List.set_cons_zero, List.set_cons_succ]
      refine wpAnyH_take (i := 7) (v := Value.pointer (some ⟨b, 0, none⟩)) rfl (by kernel_rfl) (by kernel_rfl) (by kernel_rfl) (fun _ _ _ h => h) (Or.inl ⟨by rfl, fun x hx => by go_simp⟩) hSq46 ?_
      simp only [Act.put, List.getElem_toArray, List.getElem_cons_zero, List.getElem_cons_succ, List.setIfInBounds_toArray, List.set_cons_zero, List.set_cons_succ]
      refine wpAnyH_take (i := 8) (v := Value.slice fao n fc) rfl (by kernel_rfl) (by kernel_rfl) (by kernel_rfl) (fun _ _ _ h => h) (Or.inl ⟨by rfl, fun x hx => by have hc := hx.1.cell 0 _ rfl; go_simp⟩) hSq46 ?_
      simp only [Act.put, List.getElem_toArray, List.getElem_cons_zero, List.getElem_cons_succ, List.setIfInBounds_toArray, List.set_cons_zero, List.set_cons_succ]
      refine wpAnyH_take (i := 9) (v := Value.int .i64 (n : Nat)) rfl (by kernel_rfl) (by kernel_rfl) (by kernel_rfl) (fun _ _ _ h => h) (Or.inl ⟨by rfl, fun x hx => by go_simp⟩) hSq46 ?_
      simp only [Act.put, List.getElem_toArray, List.getElem_cons_zero, List.getElem_cons_succ, List.setIfInBounds_toArray, List.set_cons_zero, List.set_cons_succ]
      refine wpAnyH_ready (rs := [10]) (by kernel_rfl) (by simp) ?_
      refine AllReadyH.cons rfl (fun K hK => ?_) AllReadyH.nil
      rw [if_pos (by rfl)]
      refine wp_bsI 85 3 (.tmp 52) rfl n (by rfl) Try.underlying85 Try.infoInt2 ?_
      intro gq52 yq50 egq53 ezq54 bq49 hEq51
      have lgq55 : base ≤ gq52 := by rw [egq53]; exact Nat.le_trans hbw3 hSq46.2.2.size
      have lbq56 : b < gq52 := by rw [egq53]; exact hSq46.1.lt
      have lbq57 : wr.heap.size < gq52 := by rw [egq53]; exact hSq46.2.1.lt
      have hHq58 := Lib.hid (hHq47.out.below bq49)
      have hHq59 := Lib.hid (hHq48.out.below bq49)
      refine hK.out _ _ ⟨hSq46.1.below bq49 hSq46.1.lt, hSq46.2.1.below bq49 hSq46.2.1.lt, hSq46.2.2.trans (bq49.mono (Nat.le_trans hbw3 hSq46.2.2.size))⟩ (fun hSq60 => ?_)
      clear hK K hSq46 bq49 egq53 ezq54
      refine wpAnyH_ready (rs := [11]) (by kernel_rfl) (by simp) ?_
      refine AllReadyH.cons rfl (fun K hK => ?_) AllReadyH.nil
      rw [if_pos (by rfl)]
      refine wp_needEntry Try.hashKey (.tmp 45) (.tmp 46) 60 85 rfl Try.underlying60 (Try.zeroInts _) base nm _ (by rfl) hHq58.out s HS.out (by rfl) ?_
      intro vq61 sq62 yq63 hnaq64 hgrq65 hfrq66
      have hEq70 := hEq51.frm hfrq66 id
      have HNAq68 := Lib.hid hnaq64
      have HFRq69 := Lib.hid (hHq59.out.trans (hfrq66.mono (fun _ e => e.elim) (fun _ e => e)))
      refine hK.out _ _ ⟨hSq60.1.frm hfrq66 id, hSq60.2.1.frm hfrq66 id, hSq60.2.2.grown hgrq65 (Nat.le_trans hbw3 hSq60.2.2.size) (fun q e => by cases e; exact HAB.out.2.2.1)⟩ (fun hSq67 => ?_)
      clear hK K hSq60 hnaq64 hgrq65 hfrq66
      refine wpAnyH_take (i := 12) (v := vq61) rfl (by kernel_rfl) (by kernel_rfl) (by kernel_rfl) (fun _ _ _ h => h) (Or.inl ⟨by rfl, fun x hx => by go_simp⟩) hSq67 ?_
      simp only [Act.put, List.getElem_toArray, List.getElem_cons_zero, List.getElem_cons_succ, List.setIfInBounds_toArray, List.set_cons_zero, List.set_cons_succ]
      refine wpAnyH_take (i := 14) (v := .int .i64 (sq62 : Nat)) rfl (by kernel_rfl) (by kernel_rfl) (by kernel_rfl) (fun _ _ _ h => h) (Or.inl ⟨by rfl, fun x hx => by go_simp⟩) hSq67 ?_
      simp only [Act.put, List.getElem_toArray, List.getElem_cons_zero, List.getElem_cons_succ, List.setIfInBounds_toArray, List.set_cons_zero, List.set_cons_succ]
      refine wpAnyH_ready (rs := [13]) (by kernel_rfl) (by simp) ?_
      refine AllReadyH.cons rfl (fun K hK => ?_) AllReadyH.nil
      rw [if_pos (by rfl)]
      refine wp_needAppend (.tmp 47) (.tmp 53) 85 rfl Try.underlying85 Try.infoInt3 base nm sq62 _ s HS.out vq61 (by rfl) HNAq68.out gq52 1 n (by rfl) _ hEq70 (ndT_len _ _ _ _ HSUM.out (by rw [← HP.out]; exact hpl)) (Nat.le_trans hbw3 hSq67.2.2.size) (fun q hq => Nat.lt_of_lt_of_le (HAW.out q hq) (Nat.le_trans HB3.out.size hSq67.2.2.size)) ?_
      intro vq71 yq72 hnaq73 hfrq74 hbbq75 hgrq76 hownq77
      have HNAq79 := Lib.hid hnaq73
      have HFRq80 := Lib.hid (HFRq69.out.trans (hfrq74.mono (fun _ e => e) (fun _ e => e.elim)))
      refine hK.out _ _ ⟨hSq67.1.frm hfrq74 (by decide), hSq67.2.1.frm hfrq74 (by decide), hSq67.2.2.grown hgrq76 (Nat.le_trans hbw3 hSq67.2.2.size) hbbq75⟩ (fun hSq78 => ?_)
      clear hK K hSq67 hnaq73 hgrq76 hfrq74 hbbq75 hownq77
      refine wpAnyH_ready (rs := [15]) (by kernel_rfl) (by simp) ?_
      refine AllReadyH.cons rfl (fun K hK => ?_) AllReadyH.nil
      rw [if_pos (by rfl)]
      refine wp_needStore Try.hashKey (.tmp 45) (.tmp 56) (.tmp 55) 60 rfl base nm sq62 _ s HS.out vq71 (by rfl) (by rfl) (by rfl) HNAq79.out ?_
      intro yq81 hniq82 hgrq83 hfrq84
      have HNDq86 := Lib.hid hniq82
      have HFRq87 := Lib.hid (HFRq80.out.trans (hfrq84.mono (fun _ e => e.elim) (fun _ e => e)))
      refine hK.out _ _ ⟨hSq78.1.frm hfrq84 id, hSq78.2.1.frm hfrq84 id, hSq78.2.2.grown hgrq83 (Nat.le_trans hbw3 hSq78.2.2.size) (fun q e => by cases e; exact HAB.out.2.2.1)⟩ (fun hSq85 => ?_)
      clear hK K hSq78 hniq82 hgrq83 hfrq84
      refine wpAnyH_done (by kernel_rfl) ?_ _
      have hBz := Lib.hid hSq85.2.2
      clear hSq85
      go_wp2_with fail
      go_roundw
      case rel => exact ⟨k + 1, by omega, by go_num, Lib.hid (HNDq86.out.congr (fun y _ => by rw [HN.out]; exact ndT_succ fs f k s HSK.out y)), HFRq87, hBz⟩
      case measure => simp [intOf]; omega
    · obtain rfl : k = p := by omega
      have hfr := hFRw.out
      have hbr := hBw.out
      have hk4 := hk3.frm HFR.out (by decide)
      have hf4 := hf3.frm HFR.out (by decide)
      have HFO4 := Lib.hid (HFO3.out.frm HFR.out (by decide) (by decide))
      have HDM4 := Lib.hid (HDM3.out.frm HFR.out (fun e => HAP.out.2.2 e.symm))
      have HSN4 := Lib.hid (HSN3.out.frm HFR.out HAP.out.1)
      have HND4 : Hid (NeedsIs A wr base nm (needsT (fs ++ [f]))) := HND.out.congr (fun h _ => by rw [HP.out, ndT_all])
      have hX4 := (HXY.out _ hfr hbr).1
      have hY4 := (HXY.out _ hfr hbr).2
      have HFR4 : Hid (Frm A (fun t => t = 68 ∨ t = 64) (fun _ => False) wr wr) := Frm.refl _
      have HFRW := Lib.hid hfr
      have HBW := Lib.hid hbr
      have hfb : w.heap.size ≠ b := fun e => by have := HBI.out.box; obtain ⟨_, h, _⟩ := this; have := h.lt; omega
      clear HND HFR HB HND3 HFR3 HB3 hB3 hFRw hBw hk3 hf3 HFO3 HDM3 HSN3 hlt hkp
      go_wp2_with fail
      refine wp_region_held_drew (S := fun x => Blk x (w.heap.size) #[.slice xa k xc, .slice ya (m + 1) yc] 68 ∧ HashesAt x (.slice xa k xc) f.ins ∧ HashesAt x (.slice ya (m + 1) yc) f.outs ∧ Below base w x) (by kernel_rfl) ⟨hf4.drew, hX4.below (below_drewN (Below.refl _ _) 1), hY4.below (below_drewN (Below.refl _ _) 1), below_drewN hbr 1⟩ (fun hSq88 => ?_)
      have hEq89 := Blk.drew hk4
      have hHq90 := Lib.hid (HFO4.out.drew)
      have hHq91 := Lib.hid (HFR4.out.drew)
      refine wpAnyH_take (i := 0) (v := Value.pointer (some ⟨b, 0, none⟩)) rfl (by kernel_rfl) (by kernel_rfl) (by kernel_rfl) (fun _ _ _ h => h) (Or.inl ⟨by rfl, fun x hx => by go_simp⟩) hSq88 ?_
      simp only [Act.put, List.getElem_toArray, List.getElem_cons_zero, List.getElem_cons_succ, List.setIfInBounds_toArray, List.set_cons_zero, List.set_cons_succ]
      refine wpAnyH_take (i := 1) (v := Value.pointer (some ⟨b, 0, none⟩)) rfl (by kernel_rfl) (by kernel_rfl) (by kernel_rfl) (fun _ _ _ h => h) (Or.inl ⟨by rfl, fun x hx => by go_simp⟩) hSq88 ?_
      simp only [Act.put, List.getElem_toArray, List.getElem_cons_zero, List.getElem_cons_succ, List.setIfInBounds_toArray, List.set_cons_zero, List.set_cons_succ]
      refine wpAnyH_take (i := 2) (v := Value.pointer (some ⟨b, 0, none⟩)) rfl (by kernel_rfl) (by kernel_rfl) (by kernel_rfl) (fun _ _ _ h => h) (Or.inl ⟨by rfl, fun x hx => by go_simp⟩) hSq88 ?_
      simp only [Act.put, List.getElem_toArray, List.getElem_cons_zero, List.getElem_cons_succ, List.setIfInBounds_toArray, List.set_cons_zero, List.set_cons_succ]
      refine wpAnyH_take (i := 3) (v := Value.pointer (some ⟨b, 0, none⟩)) rfl (by kernel_rfl) (by kernel_rfl) (by kernel_rfl) (fun _ _ _ h => h) (Or.inl ⟨by rfl, fun x hx => by go_simp⟩) hSq88 ?_
      simp only [Act.put, List.getElem_toArray, List.getElem_cons_zero, List.getElem_cons_succ, List.setIfInBounds_toArray, List.set_cons_zero, List.set_cons_succ]
      refine wpAnyH_take (i := 5) (v := Value.pointer (some ⟨w.heap.size, 0, none⟩)) rfl (by kernel_rfl) (by kernel_rfl) (by kernel_rfl) (fun _ _ _ h => h) (Or.inl ⟨by rfl, fun x hx => by go_simp⟩) hSq88 ?_
      simp only [Act.put, List.getElem_toArray, List.getElem_cons_zero, List.getElem_cons_succ, List.setIfInBounds_toArray, List.set_cons_zero, List.set_cons_succ]
      refine wpAnyH_take (i := 6) (v := Value.slice xa k xc) rfl (by kernel_rfl) (by kernel_rfl) (by kernel_rfl) (fun _ _ _ h => h) (Or.inl ⟨by rfl, fun x hx => by have hc := hx.1.cell 0 _ rfl; go_simp⟩) hSq88 ?_
      simp only [Act.put, List.getElem_toArray, List.getElem_cons_zero, List.getElem_cons_succ, List.setIfInBounds_toArray, List.set_cons_zero, List.set_cons_succ]
      refine wpAnyH_take (i := 8) (v := Value.pointer (some ⟨w.heap.size, 1, none⟩)) rfl (by kernel_rfl) (by kernel_rfl) (by kernel_rfl) (fun _ _ _ h => h) (Or.inl ⟨by rfl, fun x hx => by go_simp⟩) hSq88 ?_
      simp only [Act.put, List.getElem_toArray, List.getElem_cons_zero, List.getElem_cons_succ, List.setIfInBounds_toArray, List.set_cons_zero, List.set_cons_succ]
      refine wpAnyH_take (i := 9) (v := Value.slice ya (m + 1) yc) rfl (by kernel_rfl) (by kernel_rfl) (by kernel_rfl) (fun _ _ _ h => h) (Or.inl ⟨by rfl, fun x hx => by have hc := hx.1.cell 1 _ rfl; go_simp⟩) hSq88 ?_
      simp only [Act.put, List.getElem_toArray, List.getElem_cons_zero, List.getElem_cons_succ, List.setIfInBounds_toArray, List.set_cons_zero, List.set_cons_succ]
      refine wpAnyH_ready (rs := [4, 7]) (by kernel_rfl) (by simp) ?_
      refine AllReadyH.cons rfl (fun K hK => ?_) ?_
      · rw [if_pos (by rfl)]
        refine wp_load1 62 (.tmp 61) rfl b 0 (by rfl) (.slice fao n fc) _ (hEq89.cell 0 _ rfl) Try.underlying62 rfl ?_
        refine hK.out _ _ hSq88 (fun hSq92 => ?_)
        clear hK K hSq88
        refine wpAnyH_ready (rs := [7]) (by kernel_rfl) (by simp) ?_
        refine AllReadyH.cons rfl (fun K hK => ?_) AllReadyH.nil
        go_simp
        have hsz := Nat.le_trans hbw hSq92.2.2.2.size
        go_wp2_with (go_at_call 32; refine (CloneH_calls _ f.ins _ hSq92.2.1 HF.out.li).mono ?_; rintro e yq93 ⟨vq96, rfl, hvq97, bqq94⟩; obtain ⟨acq99, ccq100, rfl⟩ := hvq97.slice; have HVq98 := Lib.hid (hvq97.weak hsz); have HVq98n : NotIn A (.slice acq99 f.ins.length ccq100) := fun q hq ha => by have e1 := (hvq97.lt q hq).1; have e2 := HAW.out q ha; have e3 := hSq92.2.2.2.size; omega)
        have hEq101 := hEq89.below bqq94 hEq89.lt
        have hHq102 := Lib.hid (hHq90.out.below bqq94)
        have hHq103 := Lib.hid (hHq91.out.below bqq94)
        refine hK.out _ _ ⟨hSq92.1.below bqq94 hSq92.1.lt, hSq92.2.1.below bqq94, hSq92.2.2.1.below bqq94, hSq92.2.2.2.trans (bqq94.mono (Nat.le_trans hbw hSq92.2.2.2.size))⟩ (fun hSq95 => ?_)
        clear hK K hSq92 bqq94 hsz hvq97
        refine wpAnyH_ready (rs := [10]) (by kernel_rfl) (by simp) ?_
        refine AllReadyH.cons rfl (fun K hK => ?_) AllReadyH.nil
        go_simp
        have hsz := Nat.le_trans hbw hSq95.2.2.2.size
        go_wp2_with (go_at_call 32; refine (CloneH_calls _ f.outs _ hSq95.2.2.1 HF.out.lo).mono ?_; rintro e yq104 ⟨vq107, rfl, hvq108, bqq105⟩; obtain ⟨acq110, ccq111, rfl⟩ := hvq108.slice; have HVq109 := Lib.hid (hvq108.weak hsz); have HVq109n : NotIn A (.slice acq110 f.outs.length ccq111) := fun q hq ha => by have e1 := (hvq108.lt q hq).1; have e2 := HAW.out q ha; have e3 := hSq95.2.2.2.size; omega)
        have hEq112 := hEq101.below bqq105 hEq101.lt
        have hHq113 := Lib.hid (hHq102.out.below bqq105)
        have hHq114 := Lib.hid (hHq103.out.below bqq105)
        have hHq115 := Lib.hid (HVq98.out.below bqq105)
        refine hK.out _ _ ⟨hSq95.1.below bqq105 hSq95.1.lt, hSq95.2.1.below bqq105, hSq95.2.2.1.below bqq105, hSq95.2.2.2.trans (bqq105.mono (Nat.le_trans hbw hSq95.2.2.2.size))⟩ (fun hSq106 => ?_)
        clear hK K hSq95 bqq105 hsz hvq108
        refine wpAnyH_take (i := 11) rfl (by kernel_rfl) (by kernel_rfl) (by kernel_rfl) (fun _ _ _ h => h) (yieldsIf_build (by rfl) 68 #[(0, .tmp 65), (1, .tmp 68)] rfl #[(.slice acq99 f.ins.length ccq100), (.slice acq110 f.outs.length ccq111)] (by kernel_rfl)) hSq106 ?_
        simp only [Act.put, List.getElem_toArray, List.getElem_cons_zero, List.getElem_cons_succ, List.setIfInBounds_toArray, List.set_cons_zero, List.set_cons_succ]
        refine wpAnyH_ready (rs := [12]) (by kernel_rfl) (by simp) ?_
        refine AllReadyH.cons rfl (fun K hK => ?_) AllReadyH.nil
        rw [if_pos (by rfl)]
        refine wp_bs2 62 68 (.tmp 69) rfl #[(.slice acq99 f.ins.length ccq100), (.slice acq110 f.outs.length ccq111)] (by rfl) Try.underlying62 _ 2 Try.infoFact2 rfl (by omega) (by omega) ?_
        intro gq119 yq117 egq120 ezq121 bq116 hEq118
        have lgq122 : base ≤ gq119 := by rw [egq120]; exact Nat.le_trans hbw hSq106.2.2.2.size
        have lbq123 : w.heap.size < gq119 := by rw [egq120]; exact hSq106.1.lt
        have hEq124 := hEq112.below bq116 hEq112.lt
        have hHq125 := Lib.hid (hHq113.out.below bq116)
        have hHq126 := Lib.hid (hHq114.out.below bq116)
        have hHq127 := Lib.hid (hHq115.out.below bq116)
        have hHq128 := Lib.hid (HVq109.out.below bq116)
        refine hK.out _ _ ⟨hSq106.1.below bq116 hSq106.1.lt, hSq106.2.1.below bq116, hSq106.2.2.1.below bq116, hSq106.2.2.2.trans (bq116.mono (Nat.le_trans hbw hSq106.2.2.2.size))⟩ (fun hSq129 => ?_)
        clear hK K hSq106 bq116 egq120 ezq121
        refine wpAnyH_ready (rs := [13]) (by kernel_rfl) (by simp) ?_
        refine AllReadyH.cons rfl (fun K hK => ?_) AllReadyH.nil
        rw [if_pos (by rfl)]
        refine wp_factAppend (.tmp 62) (.tmp 70) 62 rfl Try.underlying62 Try.infoFact3 base fs f _ (by rfl) hHq125.out (.slice acq99 f.ins.length ccq100) (.slice acq110 f.outs.length ccq111) hHq127.out hHq128.out gq119 1 (by rfl) _ hEq118 (by have := HNB.out; rw [← HN.out]; omega) (Nat.le_trans hbw hSq129.2.2.2.size) (by decide) HVq98n HVq109n (fun q hq => Nat.lt_of_lt_of_le (HAW.out q hq) hSq129.2.2.2.size) ?_
        intro vq130 yq131 hfoq132 hgrq133 hfrq134 hbbq135
        have hbwq139 := hSq129.2.2.2.grown hgrq133 (Nat.le_trans hbw hSq129.2.2.2.size) hbbq135
        have HFRq138 := Lib.hid (hHq126.out.trans hfrq134)
        have HFOq137 := Lib.hid hfoq132
        have hftq140 : Frm A NT (MM sm nm) w yq131 := HFRW.out.trans (HFRq138.out.mono (fun _ e => e.elim (fun e => .inr (.inl e)) (fun e => .inl e)) (fun _ e => e.elim))
        have hEq141 := hEq124.grown hgrq133 (fun e => (FactsOwn.ne_blk hHq125.out hEq124 (by decide)) e.symm)
        refine hK.out _ _ ⟨hSq129.1.grown hgrq133 (fun e => by have := HFLT.out _ e.symm; omega), (HXY.out _ hftq140 hbwq139).1, (HXY.out _ hftq140 hbwq139).2, hbwq139⟩ (fun hSq136 => ?_)
        clear hK K hSq129 hfoq132 hgrq133 hfrq134 hbbq135 hbwq139 hftq140
        refine wpAnyH_take (i := 14) (v := Value.pointer (some ⟨b, 0, none⟩)) rfl (by kernel_rfl) (by kernel_rfl) (by kernel_rfl) (fun _ _ _ h => h) (Or.inl ⟨by rfl, fun x hx => by go_simp⟩) hSq136 ?_
        simp only [Act.put, List.getElem_toArray, List.getElem_cons_zero, List.getElem_cons_succ, List.setIfInBounds_toArray, List.set_cons_zero, List.set_cons_succ]
        refine wpAnyH_take (i := 15) (v := Value.pointer (some ⟨b, 0, none⟩)) rfl (by kernel_rfl) (by kernel_rfl) (by kernel_rfl) (fun _ _ _ h => h) (Or.inl ⟨by rfl, fun x hx => by go_simp⟩) hSq136 ?_
        simp only [Act.put, List.getElem_toArray, List.getElem_cons_zero, List.getElem_cons_succ, List.setIfInBounds_toArray, List.set_cons_zero, List.set_cons_succ]
        refine wpAnyH_ready (rs := [16]) (by kernel_rfl) (by simp) ?_
        refine AllReadyH.cons rfl (fun K hK => ?_) AllReadyH.nil
        rw [if_pos (by rfl)]
        refine wp_storeV 62 (.tmp 73) (.tmp 71) rfl b 0 vq130 (by rfl) (by rfl) _ [.slice fao n fc, .map (some sm), .map (some nm), .map (some dm)] [] [.slice fao n fc] [.map (some sm), .map (some nm), .map (some dm)] [vq130] hEq141 rfl rfl rfl (FactsOwn.cells HFOq137.out).1 (by simpa using (FactsOwn.cells HFOq137.out).2) Try.sizeFs ?_
        intro yq142 hbq143 hgrq144
        have hbwq147 := hSq136.2.2.2.grown hgrq144 (Nat.le_trans hbw hSq136.2.2.2.size) (fun q e => by cases e; exact HAB.out.1)
        have hfz : Frm A (fun t => t = 68 ∨ t = 64) (fun _ => False) yq131 yq142 := Frm.grownBlk hEq141 hgrq144 (.inr rfl) HAO.out.1
        have HFRq146 := Lib.hid (HFRq138.out.trans hfz)
        have HFOq149 := Lib.hid (FactsOwn.grown HFOq137.out hgrq144 (FactsOwn.ne_blk HFOq137.out hEq141 (by decide)) hEq141)
        have hftq148 : Frm A NT (MM sm nm) w yq142 := HFRW.out.trans (HFRq146.out.mono (fun _ e => e.elim (fun e => .inr (.inl e)) (fun e => .inl e)) (fun _ e => e.elim))
        have HTOT := Lib.hid hftq148
        refine hK.out _ _ ⟨hSq136.1.grown hgrq144 (fun e => hfb (by simpa using e)), (HXY.out _ hftq148 hbwq147).1, (HXY.out _ hftq148 hbwq147).2, hbwq147⟩ (fun hSq145 => ?_)
        clear hK K hSq136 hgrq144 hbwq147 hftq148 hfz
        refine wpAnyH_done (by kernel_rfl) ?_ _
        have hBz := Lib.hid hSq145.2.2.2
        clear hSq145
        go_wp2_with fail
        go_returns
        exact ⟨rfl, ⟨⟨_, hbq143, HFOq149.out⟩, ⟨_, (HSN4.out.frm HFRq146.out id).congr (fun x _ => seenLook_snoc fs f x)⟩, HND4.out.frm HFRq146.out (by decide) id, ⟨_, HDM4.out.frm HFRq146.out id⟩, HAB.out, HAP.out, HAO.out⟩, HTOT.out, hBz.out⟩
      refine AllReadyH.cons rfl (fun K hK => ?_) AllReadyH.nil
      go_simp
      have hsz := Nat.le_trans hbw hSq88.2.2.2.size
      go_wp2_with (go_at_call 32; refine (CloneH_calls _ f.ins _ hSq88.2.1 HF.out.li).mono ?_; rintro e yq150 ⟨vq153, rfl, hvq154, bqq151⟩; obtain ⟨acq156, ccq157, rfl⟩ := hvq154.slice; have HVq155 := Lib.hid (hvq154.weak hsz); have HVq155n : NotIn A (.slice acq156 f.ins.length ccq157) := fun q hq ha => by have e1 := (hvq154.lt q hq).1; have e2 := HAW.out q ha; have e3 := hSq88.2.2.2.size; omega)
      have hEq158 := hEq89.below bqq151 hEq89.lt
      have hHq159 := Lib.hid (hHq90.out.below bqq151)
      have hHq160 := Lib.hid (hHq91.out.below bqq151)
      refine hK.out _ _ ⟨hSq88.1.below bqq151 hSq88.1.lt, hSq88.2.1.below bqq151, hSq88.2.2.1.below bqq151, hSq88.2.2.2.trans (bqq151.mono (Nat.le_trans hbw hSq88.2.2.2.size))⟩ (fun hSq152 => ?_)
      clear hK K hSq88 bqq151 hsz hvq154
      refine wpAnyH_ready (rs := [4, 10]) (by kernel_rfl) (by simp) ?_
      refine AllReadyH.cons rfl (fun K hK => ?_) ?_
      · rw [if_pos (by rfl)]
        refine wp_load1 62 (.tmp 61) rfl b 0 (by rfl) (.slice fao n fc) _ (hEq158.cell 0 _ rfl) Try.underlying62 rfl ?_
        refine hK.out _ _ hSq152 (fun hSq161 => ?_)
        clear hK K hSq152
        refine wpAnyH_ready (rs := [10]) (by kernel_rfl) (by simp) ?_
        refine AllReadyH.cons rfl (fun K hK => ?_) AllReadyH.nil
        go_simp
        have hsz := Nat.le_trans hbw hSq161.2.2.2.size
        go_wp2_with (go_at_call 32; refine (CloneH_calls _ f.outs _ hSq161.2.2.1 HF.out.lo).mono ?_; rintro e yq162 ⟨vq165, rfl, hvq166, bqq163⟩; obtain ⟨acq168, ccq169, rfl⟩ := hvq166.slice; have HVq167 := Lib.hid (hvq166.weak hsz); have HVq167n : NotIn A (.slice acq168 f.outs.length ccq169) := fun q hq ha => by have e1 := (hvq166.lt q hq).1; have e2 := HAW.out q ha; have e3 := hSq161.2.2.2.size; omega)
        have hEq170 := hEq158.below bqq163 hEq158.lt
        have hHq171 := Lib.hid (hHq159.out.below bqq163)
        have hHq172 := Lib.hid (hHq160.out.below bqq163)
        have hHq173 := Lib.hid (HVq155.out.below bqq163)
        refine hK.out _ _ ⟨hSq161.1.below bqq163 hSq161.1.lt, hSq161.2.1.below bqq163, hSq161.2.2.1.below bqq163, hSq161.2.2.2.trans (bqq163.mono (Nat.le_trans hbw hSq161.2.2.2.size))⟩ (fun hSq164 => ?_)
        clear hK K hSq161 bqq163 hsz hvq166
        refine wpAnyH_take (i := 11) rfl (by kernel_rfl) (by kernel_rfl) (by kernel_rfl) (fun _ _ _ h => h) (yieldsIf_build (by rfl) 68 #[(0, .tmp 65), (1, .tmp 68)] rfl #[(.slice acq156 f.ins.length ccq157), (.slice acq168 f.outs.length ccq169)] (by kernel_rfl)) hSq164 ?_
        simp only [Act.put, List.getElem_toArray, List.getElem_cons_zero, List.getElem_cons_succ, List.setIfInBounds_toArray, List.set_cons_zero, List.set_cons_succ]
        refine wpAnyH_ready (rs := [12]) (by kernel_rfl) (by simp) ?_
        refine AllReadyH.cons rfl (fun K hK => ?_) AllReadyH.nil
        rw [if_pos (by rfl)]
        refine wp_bs2 62 68 (.tmp 69) rfl #[(.slice acq156 f.ins.length ccq157), (.slice acq168 f.outs.length ccq169)] (by rfl) Try.underlying62 _ 2 Try.infoFact2 rfl (by omega) (by omega) ?_
        intro gq177 yq175 egq178 ezq179 bq174 hEq176
        have lgq180 : base ≤ gq177 := by rw [egq178]; exact Nat.le_trans hbw hSq164.2.2.2.size
        have lbq181 : w.heap.size < gq177 := by rw [egq178]; exact hSq164.1.lt
        have hEq182 := hEq170.below bq174 hEq170.lt
        have hHq183 := Lib.hid (hHq171.out.below bq174)
        have hHq184 := Lib.hid (hHq172.out.below bq174)
        have hHq185 := Lib.hid (hHq173.out.below bq174)
        have hHq186 := Lib.hid (HVq167.out.below bq174)
        refine hK.out _ _ ⟨hSq164.1.below bq174 hSq164.1.lt, hSq164.2.1.below bq174, hSq164.2.2.1.below bq174, hSq164.2.2.2.trans (bq174.mono (Nat.le_trans hbw hSq164.2.2.2.size))⟩ (fun hSq187 => ?_)
        clear hK K hSq164 bq174 egq178 ezq179
        refine wpAnyH_ready (rs := [13]) (by kernel_rfl) (by simp) ?_
        refine AllReadyH.cons rfl (fun K hK => ?_) AllReadyH.nil
        rw [if_pos (by rfl)]
        refine wp_factAppend (.tmp 62) (.tmp 70) 62 rfl Try.underlying62 Try.infoFact3 base fs f _ (by rfl) hHq183.out (.slice acq156 f.ins.length ccq157) (.slice acq168 f.outs.length ccq169) hHq185.out hHq186.out gq177 1 (by rfl) _ hEq176 (by have := HNB.out; rw [← HN.out]; omega) (Nat.le_trans hbw hSq187.2.2.2.size) (by decide) HVq155n HVq167n (fun q hq => Nat.lt_of_lt_of_le (HAW.out q hq) hSq187.2.2.2.size) ?_
        intro vq188 yq189 hfoq190 hgrq191 hfrq192 hbbq193
        have hbwq197 := hSq187.2.2.2.grown hgrq191 (Nat.le_trans hbw hSq187.2.2.2.size) hbbq193
        have HFRq196 := Lib.hid (hHq184.out.trans hfrq192)
        have HFOq195 := Lib.hid hfoq190
        have hftq198 : Frm A NT (MM sm nm) w yq189 := HFRW.out.trans (HFRq196.out.mono (fun _ e => e.elim (fun e => .inr (.inl e)) (fun e => .inl e)) (fun _ e => e.elim))
        have hEq199 := hEq182.grown hgrq191 (fun e => (FactsOwn.ne_blk hHq183.out hEq182 (by decide)) e.symm)
        refine hK.out _ _ ⟨hSq187.1.grown hgrq191 (fun e => by have := HFLT.out _ e.symm; omega), (HXY.out _ hftq198 hbwq197).1, (HXY.out _ hftq198 hbwq197).2, hbwq197⟩ (fun hSq194 => ?_)
        clear hK K hSq187 hfoq190 hgrq191 hfrq192 hbbq193 hbwq197 hftq198
        refine wpAnyH_take (i := 14) (v := Value.pointer (some ⟨b, 0, none⟩)) rfl (by kernel_rfl) (by kernel_rfl) (by kernel_rfl) (fun _ _ _ h => h) (Or.inl ⟨by rfl, fun x hx => by go_simp⟩) hSq194 ?_
        simp only [Act.put, List.getElem_toArray, List.getElem_cons_zero, List.getElem_cons_succ, List.setIfInBounds_toArray, List.set_cons_zero, List.set_cons_succ]
        refine wpAnyH_take (i := 15) (v := Value.pointer (some ⟨b, 0, none⟩)) rfl (by kernel_rfl) (by kernel_rfl) (by kernel_rfl) (fun _ _ _ h => h) (Or.inl ⟨by rfl, fun x hx => by go_simp⟩) hSq194 ?_
        simp only [Act.put, List.getElem_toArray, List.getElem_cons_zero, List.getElem_cons_succ, List.setIfInBounds_toArray, List.set_cons_zero, List.set_cons_succ]
        refine wpAnyH_ready (rs := [16]) (by kernel_rfl) (by simp) ?_
        refine AllReadyH.cons rfl (fun K hK => ?_) AllReadyH.nil
        rw [if_pos (by rfl)]
        refine wp_storeV 62 (.tmp 73) (.tmp 71) rfl b 0 vq188 (by rfl) (by rfl) _ [.slice fao n fc, .map (some sm), .map (some nm), .map (some dm)] [] [.slice fao n fc] [.map (some sm), .map (some nm), .map (some dm)] [vq188] hEq199 rfl rfl rfl (FactsOwn.cells HFOq195.out).1 (by simpa using (FactsOwn.cells HFOq195.out).2) Try.sizeFs ?_
        intro yq200 hbq201 hgrq202
        have hbwq205 := hSq194.2.2.2.grown hgrq202 (Nat.le_trans hbw hSq194.2.2.2.size) (fun q e => by cases e; exact HAB.out.1)
        have hfz : Frm A (fun t => t = 68 ∨ t = 64) (fun _ => False) yq189 yq200 := Frm.grownBlk hEq199 hgrq202 (.inr rfl) HAO.out.1
        have HFRq204 := Lib.hid (HFRq196.out.trans hfz)
        have HFOq207 := Lib.hid (FactsOwn.grown HFOq195.out hgrq202 (FactsOwn.ne_blk HFOq195.out hEq199 (by decide)) hEq199)
        have hftq206 : Frm A NT (MM sm nm) w yq200 := HFRW.out.trans (HFRq204.out.mono (fun _ e => e.elim (fun e => .inr (.inl e)) (fun e => .inl e)) (fun _ e => e.elim))
        have HTOT := Lib.hid hftq206
        refine hK.out _ _ ⟨hSq194.1.grown hgrq202 (fun e => hfb (by simpa using e)), (HXY.out _ hftq206 hbwq205).1, (HXY.out _ hftq206 hbwq205).2, hbwq205⟩ (fun hSq203 => ?_)
        clear hK K hSq194 hgrq202 hbwq205 hftq206 hfz
        refine wpAnyH_done (by kernel_rfl) ?_ _
        have hBz := Lib.hid hSq203.2.2.2
        clear hSq203
        go_wp2_with fail
        go_returns
        exact ⟨rfl, ⟨⟨_, hbq201, HFOq207.out⟩, ⟨_, (HSN4.out.frm HFRq204.out id).congr (fun x _ => seenLook_snoc fs f x)⟩, HND4.out.frm HFRq204.out (by decide) id, ⟨_, HDM4.out.frm HFRq204.out id⟩, HAB.out, HAP.out, HAO.out⟩, HTOT.out, hBz.out⟩
      refine AllReadyH.cons rfl (fun K hK => ?_) AllReadyH.nil
      go_simp
      have hsz := Nat.le_trans hbw hSq152.2.2.2.size
      go_wp2_with (go_at_call 32; refine (CloneH_calls _ f.outs _ hSq152.2.2.1 HF.out.lo).mono ?_; rintro e yq208 ⟨vq211, rfl, hvq212, bqq209⟩; obtain ⟨acq214, ccq215, rfl⟩ := hvq212.slice; have HVq213 := Lib.hid (hvq212.weak hsz); have HVq213n : NotIn A (.slice acq214 f.outs.length ccq215) := fun q hq ha => by have e1 := (hvq212.lt q hq).1; have e2 := HAW.out q ha; have e3 := hSq152.2.2.2.size; omega)
      have hEq216 := hEq158.below bqq209 hEq158.lt
      have hHq217 := Lib.hid (hHq159.out.below bqq209)
      have hHq218 := Lib.hid (hHq160.out.below bqq209)
      have hHq219 := Lib.hid (HVq155.out.below bqq209)
      refine hK.out _ _ ⟨hSq152.1.below bqq209 hSq152.1.lt, hSq152.2.1.below bqq209, hSq152.2.2.1.below bqq209, hSq152.2.2.2.trans (bqq209.mono (Nat.le_trans hbw hSq152.2.2.2.size))⟩ (fun hSq210 => ?_)
      clear hK K hSq152 bqq209 hsz hvq212
      refine wpAnyH_take (i := 11) rfl (by kernel_rfl) (by kernel_rfl) (by kernel_rfl) (fun _ _ _ h => h) (yieldsIf_build (by rfl) 68 #[(0, .tmp 65), (1, .tmp 68)] rfl #[(.slice acq156 f.ins.length ccq157), (.slice acq214 f.outs.length ccq215)] (by kernel_rfl)) hSq210 ?_
      simp only [Act.put, List.getElem_toArray, List.getElem_cons_zero, List.getElem_cons_succ, List.setIfInBounds_toArray, List.set_cons_zero, List.set_cons_succ]
      refine wpAnyH_ready (rs := [4, 12]) (by kernel_rfl) (by simp) ?_
      refine AllReadyH.cons rfl (fun K hK => ?_) ?_
      · rw [if_pos (by rfl)]
        refine wp_load1 62 (.tmp 61) rfl b 0 (by rfl) (.slice fao n fc) _ (hEq216.cell 0 _ rfl) Try.underlying62 rfl ?_
        refine hK.out _ _ hSq210 (fun hSq220 => ?_)
        clear hK K hSq210
        refine wpAnyH_ready (rs := [12]) (by kernel_rfl) (by simp) ?_
        refine AllReadyH.cons rfl (fun K hK => ?_) AllReadyH.nil
        rw [if_pos (by rfl)]
        refine wp_bs2 62 68 (.tmp 69) rfl #[(.slice acq156 f.ins.length ccq157), (.slice acq214 f.outs.length ccq215)] (by rfl) Try.underlying62 _ 2 Try.infoFact2 rfl (by omega) (by omega) ?_
        intro gq224 yq222 egq225 ezq226 bq221 hEq223
        have lgq227 : base ≤ gq224 := by rw [egq225]; exact Nat.le_trans hbw hSq220.2.2.2.size
        have lbq228 : w.heap.size < gq224 := by rw [egq225]; exact hSq220.1.lt
        have hEq229 := hEq216.below bq221 hEq216.lt
        have hHq230 := Lib.hid (hHq217.out.below bq221)
        have hHq231 := Lib.hid (hHq218.out.below bq221)
        have hHq232 := Lib.hid (hHq219.out.below bq221)
        have hHq233 := Lib.hid (HVq213.out.below bq221)
        refine hK.out _ _ ⟨hSq220.1.below bq221 hSq220.1.lt, hSq220.2.1.below bq221, hSq220.2.2.1.below bq221, hSq220.2.2.2.trans (bq221.mono (Nat.le_trans hbw hSq220.2.2.2.size))⟩ (fun hSq234 => ?_)
        clear hK K hSq220 bq221 egq225 ezq226
        refine wpAnyH_ready (rs := [13]) (by kernel_rfl) (by simp) ?_
        refine AllReadyH.cons rfl (fun K hK => ?_) AllReadyH.nil
        rw [if_pos (by rfl)]
        refine wp_factAppend (.tmp 62) (.tmp 70) 62 rfl Try.underlying62 Try.infoFact3 base fs f _ (by rfl) hHq230.out (.slice acq156 f.ins.length ccq157) (.slice acq214 f.outs.length ccq215) hHq232.out hHq233.out gq224 1 (by rfl) _ hEq223 (by have := HNB.out; rw [← HN.out]; omega) (Nat.le_trans hbw hSq234.2.2.2.size) (by decide) HVq155n HVq213n (fun q hq => Nat.lt_of_lt_of_le (HAW.out q hq) hSq234.2.2.2.size) ?_
        intro vq235 yq236 hfoq237 hgrq238 hfrq239 hbbq240
        have hbwq244 := hSq234.2.2.2.grown hgrq238 (Nat.le_trans hbw hSq234.2.2.2.size) hbbq240
        have HFRq243 := Lib.hid (hHq231.out.trans hfrq239)
        have HFOq242 := Lib.hid hfoq237
        have hftq245 : Frm A NT (MM sm nm) w yq236 := HFRW.out.trans (HFRq243.out.mono (fun _ e => e.elim (fun e => .inr (.inl e)) (fun e => .inl e)) (fun _ e => e.elim))
        have hEq246 := hEq229.grown hgrq238 (fun e => (FactsOwn.ne_blk hHq230.out hEq229 (by decide)) e.symm)
        refine hK.out _ _ ⟨hSq234.1.grown hgrq238 (fun e => by have := HFLT.out _ e.symm; omega), (HXY.out _ hftq245 hbwq244).1, (HXY.out _ hftq245 hbwq244).2, hbwq244⟩ (fun hSq241 => ?_)
        clear hK K hSq234 hfoq237 hgrq238 hfrq239 hbbq240 hbwq244 hftq245
        refine wpAnyH_take (i := 14) (v := Value.pointer (some ⟨b, 0, none⟩)) rfl (by kernel_rfl) (by kernel_rfl) (by kernel_rfl) (fun _ _ _ h => h) (Or.inl ⟨by rfl, fun x hx => by go_simp⟩) hSq241 ?_
        simp only [Act.put, List.getElem_toArray, List.getElem_cons_zero, List.getElem_cons_succ, List.setIfInBounds_toArray, List.set_cons_zero, List.set_cons_succ]
        refine wpAnyH_take (i := 15) (v := Value.pointer (some ⟨b, 0, none⟩)) rfl (by kernel_rfl) (by kernel_rfl) (by kernel_rfl) (fun _ _ _ h => h) (Or.inl ⟨by rfl, fun x hx => by go_simp⟩) hSq241 ?_
        simp only [Act.put, List.getElem_toArray, List.getElem_cons_zero, List.getElem_cons_succ, List.setIfInBounds_toArray, List.set_cons_zero, List.set_cons_succ]
        refine wpAnyH_ready (rs := [16]) (by kernel_rfl) (by simp) ?_
        refine AllReadyH.cons rfl (fun K hK => ?_) AllReadyH.nil
        rw [if_pos (by rfl)]
        refine wp_storeV 62 (.tmp 73) (.tmp 71) rfl b 0 vq235 (by rfl) (by rfl) _ [.slice fao n fc, .map (some sm), .map (some nm), .map (some dm)] [] [.slice fao n fc] [.map (some sm), .map (some nm), .map (some dm)] [vq235] hEq246 rfl rfl rfl (FactsOwn.cells HFOq242.out).1 (by simpa using (FactsOwn.cells HFOq242.out).2) Try.sizeFs ?_
        intro yq247 hbq248 hgrq249
        have hbwq252 := hSq241.2.2.2.grown hgrq249 (Nat.le_trans hbw hSq241.2.2.2.size) (fun q e => by cases e; exact HAB.out.1)
        have hfz : Frm A (fun t => t = 68 ∨ t = 64) (fun _ => False) yq236 yq247 := Frm.grownBlk hEq246 hgrq249 (.inr rfl) HAO.out.1
        have HFRq251 := Lib.hid (HFRq243.out.trans hfz)
        have HFOq254 := Lib.hid (FactsOwn.grown HFOq242.out hgrq249 (FactsOwn.ne_blk HFOq242.out hEq246 (by decide)) hEq246)
        have hftq253 : Frm A NT (MM sm nm) w yq247 := HFRW.out.trans (HFRq251.out.mono (fun _ e => e.elim (fun e => .inr (.inl e)) (fun e => .inl e)) (fun _ e => e.elim))
        have HTOT := Lib.hid hftq253
        refine hK.out _ _ ⟨hSq241.1.grown hgrq249 (fun e => hfb (by simpa using e)), (HXY.out _ hftq253 hbwq252).1, (HXY.out _ hftq253 hbwq252).2, hbwq252⟩ (fun hSq250 => ?_)
        clear hK K hSq241 hgrq249 hbwq252 hftq253 hfz
        refine wpAnyH_done (by kernel_rfl) ?_ _
        have hBz := Lib.hid hSq250.2.2.2
        clear hSq250
        go_wp2_with fail
        go_returns
        exact ⟨rfl, ⟨⟨_, hbq248, HFOq254.out⟩, ⟨_, (HSN4.out.frm HFRq251.out id).congr (fun x _ => seenLook_snoc fs f x)⟩, HND4.out.frm HFRq251.out (by decide) id, ⟨_, HDM4.out.frm HFRq251.out id⟩, HAB.out, HAP.out, HAO.out⟩, HTOT.out, hBz.out⟩
      refine AllReadyH.cons rfl (fun K hK => ?_) AllReadyH.nil
      rw [if_pos (by rfl)]
      refine wp_bs2 62 68 (.tmp 69) rfl #[(.slice acq156 f.ins.length ccq157), (.slice acq214 f.outs.length ccq215)] (by rfl) Try.underlying62 _ 2 Try.infoFact2 rfl (by omega) (by omega) ?_
      intro gq258 yq256 egq259 ezq260 bq255 hEq257
      have lgq261 : base ≤ gq258 := by rw [egq259]; exact Nat.le_trans hbw hSq210.2.2.2.size
      have lbq262 : w.heap.size < gq258 := by rw [egq259]; exact hSq210.1.lt
      have hEq263 := hEq216.below bq255 hEq216.lt
      have hHq264 := Lib.hid (hHq217.out.below bq255)
      have hHq265 := Lib.hid (hHq218.out.below bq255)
      have hHq266 := Lib.hid (hHq219.out.below bq255)
      have hHq267 := Lib.hid (HVq213.out.below bq255)
      refine hK.out _ _ ⟨hSq210.1.below bq255 hSq210.1.lt, hSq210.2.1.below bq255, hSq210.2.2.1.below bq255, hSq210.2.2.2.trans (bq255.mono (Nat.le_trans hbw hSq210.2.2.2.size))⟩ (fun hSq268 => ?_)
      clear hK K hSq210 bq255 egq259 ezq260
      refine wpAnyH_ready (rs := [4]) (by kernel_rfl) (by simp) ?_
      refine AllReadyH.cons rfl (fun K hK => ?_) AllReadyH.nil
      rw [if_pos (by rfl)]
      refine wp_load1 62 (.tmp 61) rfl b 0 (by rfl) (.slice fao n fc) _ (hEq263.cell 0 _ rfl) Try.underlying62 rfl ?_
      refine hK.out _ _ hSq268 (fun hSq269 => ?_)
      clear hK K hSq268
      refine wpAnyH_ready (rs := [13]) (by kernel_rfl) (by simp) ?_
      refine AllReadyH.cons rfl (fun K hK => ?_) AllReadyH.nil
      rw [if_pos (by rfl)]
      refine wp_factAppend (.tmp 62) (.tmp 70) 62 rfl Try.underlying62 Try.infoFact3 base fs f _ (by rfl) hHq264.out (.slice acq156 f.ins.length ccq157) (.slice acq214 f.outs.length ccq215) hHq266.out hHq267.out gq258 1 (by rfl) _ hEq257 (by have := HNB.out; rw [← HN.out]; omega) (Nat.le_trans hbw hSq269.2.2.2.size) (by decide) HVq155n HVq213n (fun q hq => Nat.lt_of_lt_of_le (HAW.out q hq) hSq269.2.2.2.size) ?_
      intro vq270 yq271 hfoq272 hgrq273 hfrq274 hbbq275
      have hbwq279 := hSq269.2.2.2.grown hgrq273 (Nat.le_trans hbw hSq269.2.2.2.size) hbbq275
      have HFRq278 := Lib.hid (hHq265.out.trans hfrq274)
      have HFOq277 := Lib.hid hfoq272
      have hftq280 : Frm A NT (MM sm nm) w yq271 := HFRW.out.trans (HFRq278.out.mono (fun _ e => e.elim (fun e => .inr (.inl e)) (fun e => .inl e)) (fun _ e => e.elim))
      have hEq281 := hEq263.grown hgrq273 (fun e => (FactsOwn.ne_blk hHq264.out hEq263 (by decide)) e.symm)
      refine hK.out _ _ ⟨hSq269.1.grown hgrq273 (fun e => by have := HFLT.out _ e.symm; omega), (HXY.out _ hftq280 hbwq279).1, (HXY.out _ hftq280 hbwq279).2, hbwq279⟩ (fun hSq276 => ?_)
      clear hK K hSq269 hfoq272 hgrq273 hfrq274 hbbq275 hbwq279 hftq280
      refine wpAnyH_take (i := 14) (v := Value.pointer (some ⟨b, 0, none⟩)) rfl (by kernel_rfl) (by kernel_rfl) (by kernel_rfl) (fun _ _ _ h => h) (Or.inl ⟨by rfl, fun x hx => by go_simp⟩) hSq276 ?_
      simp only [Act.put, List.getElem_toArray, List.getElem_cons_zero, List.getElem_cons_succ, List.setIfInBounds_toArray, List.set_cons_zero, List.set_cons_succ]
      refine wpAnyH_take (i := 15) (v := Value.pointer (some ⟨b, 0, none⟩)) rfl (by kernel_rfl) (by kernel_rfl) (by kernel_rfl) (fun _ _ _ h => h) (Or.inl ⟨by rfl, fun x hx => by go_simp⟩) hSq276 ?_
      simp only [Act.put, List.getElem_toArray, List.getElem_cons_zero, List.getElem_cons_succ, List.setIfInBounds_toArray, List.set_cons_zero, List.set_cons_succ]
      refine wpAnyH_ready (rs := [16]) (by kernel_rfl) (by simp) ?_
      refine AllReadyH.cons rfl (fun K hK => ?_) AllReadyH.nil
      rw [if_pos (by rfl)]
      refine wp_storeV 62 (.tmp 73) (.tmp 71) rfl b 0 vq270 (by rfl) (by rfl) _ [.slice fao n fc, .map (some sm), .map (some nm), .map (some dm)] [] [.slice fao n fc] [.map (some sm), .map (some nm), .map (some dm)] [vq270] hEq281 rfl rfl rfl (FactsOwn.cells HFOq277.out).1 (by simpa using (FactsOwn.cells HFOq277.out).2) Try.sizeFs ?_
      intro yq282 hbq283 hgrq284
      have hbwq287 := hSq276.2.2.2.grown hgrq284 (Nat.le_trans hbw hSq276.2.2.2.size) (fun q e => by cases e; exact HAB.out.1)
      have hfz : Frm A (fun t => t = 68 ∨ t = 64) (fun _ => False) yq271 yq282 := Frm.grownBlk hEq281 hgrq284 (.inr rfl) HAO.out.1
      have HFRq286 := Lib.hid (HFRq278.out.trans hfz)
      have HFOq289 := Lib.hid (FactsOwn.grown HFOq277.out hgrq284 (FactsOwn.ne_blk HFOq277.out hEq281 (by decide)) hEq281)
      have hftq288 : Frm A NT (MM sm nm) w yq282 := HFRW.out.trans (HFRq286.out.mono (fun _ e => e.elim (fun e => .inr (.inl e)) (fun e => .inl e)) (fun _ e => e.elim))
      have HTOT := Lib.hid hftq288
      refine hK.out _ _ ⟨hSq276.1.grown hgrq284 (fun e => hfb (by simpa using e)), (HXY.out _ hftq288 hbwq287).1, (HXY.out _ hftq288 hbwq287).2, hbwq287⟩ (fun hSq285 => ?_)
      clear hK K hSq276 hgrq284 hbwq287 hftq288 hfz
      refine wpAnyH_done (by kernel_rfl) ?_ _
      have hBz := Lib.hid hSq285.2.2.2
      clear hSq285
      go_wp2_with fail
      go_returns
      exact ⟨rfl, ⟨⟨_, hbq283, HFOq289.out⟩, ⟨_, (HSN4.out.frm HFRq286.out id).congr (fun x _ => seenLook_snoc fs f x)⟩, HND4.out.frm HFRq286.out (by decide) id, ⟨_, HDM4.out.frm HFRq286.out id⟩, HAB.out, HAP.out, HAO.out⟩, HTOT.out, hBz.out⟩
end Go.Proofs.Ytjlpdbaknhbgdaa
