/-
  book: known's closure: what is put in.
-/
import Derived.Test.YtjlpdbaknhbgdaaBookHash
import Derived.Test.YtjlpdbaknhbgdaaBookMaps
import Derived.Test.YtjlpdbaknhbgdaaBookLaw
import Derived.Test.YtjlpdbaknhbgdaaWl
set_option linter.unusedSimpArgs false
set_option linter.unusedVariables false
namespace Go.Proofs.Ytjlpdbaknhbgdaa
open Go.RowKit

theorem wpList_lookV {P : Program} {k : TypeId} {ok : List UInt8 → Prop} {enc : List UInt8 → Value} {w : World} {ops : Array Oper} {rest : List Oper} {o : Oper} {a : Act} {Q : Exit → Act → World → Prop} (hg : o.guard = none) (mk : MKey P k ok enc) (m x : Operand) (t e : TypeId) (ho : o.op = .lookup t m x false) (ht : P.underlying t = some (.map k e)) (z : Value) (hz : (zeroValue e).run P w = .ok z w) (b n : Nat) (look : List UInt8 → Option Value)
    (hm : a.eval m = .map (some b)) (h : MapIs ok enc w b n look) (y : List UInt8) (hy : ok y) (hx : a.eval x = enc y) (u : Value) (hu : (look y).getD z = u) (hK : wpList P ops Q rest (a.put o.dst u) w) : wpList P ops Q (o :: rest) a w :=
  wpList_look hg mk m x t e ho ht z hz b n look hm h y hy hx (by rw [hu]; exact hK)
theorem run_storeL {P : Program} {w : World} {g : Nat} {ty t : TypeId} {c u : Value} (hg : Blk w g #[c] t) (hu : u.cells = #[u]) (h1 : u.oneCell' = true) (hi : (P.info? ty).map (·.size) = some 1) :
    (storeVar ty ⟨g, 0, none⟩ u).run P w = .ok () (w.setRow g #[u]) := by
  have hr := run_storeCells_at (P := P) g 0 t [u] 0 #[c] w hg (by simp) (by simpa using h1)
  cases hq : P.info? ty with
  | none => simp [hq] at hi
  | some it =>
    have hs1 : it.size = 1 := by simpa [hq] using hi
    simpa [storeVar, sizeOf, typeInfo, hq, hu, hs1] using hr
/-- A store into a block of one cell. -/
theorem wpList_storeL {P : Program} {ops : Array Oper} {rest : List Oper} {o : Oper} {a : Act} {w : World} {Q : Exit → Act → World → Prop} (hgd : o.guard = none) (ty : TypeId) (x y : Operand) (ho : o.op = .store ty x y)
    (g : Nat) (u : Value) (hx : a.eval x = .pointer (some ⟨g, 0, none⟩)) (hy : a.eval y = u) (t : TypeId) (c : Value) (hg : Blk w g #[c] t) (hu : u.cells = #[u]) (h1 : u.oneCell' = true) (hi : (P.info? ty).map (·.size) = some 1)
    (h : ∀ w', Blk w' g #[u] t → w.grownBy w' (some g) → wpList P ops Q rest (a.put o.dst undef) w') : wpList P ops Q (o :: rest) a w := by
  refine wpList_plain hgd fun K hK => ?_
  have hr := run_storeL (P := P) hg hu h1 hi
  unfold Oper.wp execOp
  simp only [ho, hx, hy, Instr.storeAt, Instr.sureAddr, Sem.run_bind, Sem.run_pure, Result.andThen_ok, hr]
  exact hK _ _ (h _ (hg.setRow _) (grown_row _ _ _))
theorem Try.sizeHs : (Try.prog.info? 23).map (·.size) = some 1 := by kernel_rfl
theorem Try.zeroBool (w : World) : (zeroValue 4).run Try.prog w = .ok (.bool false) w := by kernel_rfl

/-- What the map of what has been found says. -/
def outLook (O : List HsT) (h : HsT) : Option Value := if h ∈ O then some (.bool true) else none
theorem outLook_snoc (O : List HsT) (h : HsT) (hO : h ∉ O) : (fun z => if z = h then some (Value.bool true) else outLook O z) = outLook (O ++ [h]) := by
  funext z
  unfold outLook
  by_cases e : z = h
  · subst e; simp
  · by_cases e2 : z ∈ O <;> simp [e, e2]
/-- What 'known' holds while it runs: the map of what has been found, the list of what is to do. -/
structure KPut (w : World) (base ob mb tb : Nat) (O T : List HsT) : Prop where
  box : Blk w ob #[.map (some mb)] 75
  mp : MapIs hashOk hashEnc w mb O.length (outLook O)
  todo : ∃ tv, Blk w tb #[tv] 23 ∧ HashOwn w base 26 tv T
  above : base ≤ mb ∧ base ≤ tb
  ok : ∀ h ∈ O, h.length = 32
theorem KPut.below {w w' : World} {base ob mb tb : Nat} {O T : List HsT} (h : KPut w base ob mb tb O T) (b : Below w.heap.size w w') : KPut w' base ob mb tb O T := by
  obtain ⟨h1, h2, ⟨tv, h3, h4⟩, h5, h6⟩ := h
  exact ⟨h1.below b h1.lt, h2.below b, ⟨tv, h3.below b h3.lt, h4.below b⟩, h5, h6⟩
/-- Blocks of other types are as they were. -/
def PutFrame (w w' : World) : Prop := ∀ q cs t, Blk w q cs t → t ≠ 26 → t ≠ 23 → Blk w' q cs t
theorem PutFrame.refl (w : World) : PutFrame w w := fun _ _ _ h _ _ => h
theorem PutFrame.trans {a b c : World} (h : PutFrame a b) (h2 : PutFrame b c) : PutFrame a c := fun q cs t hq h3 h4 => h2 q cs t (h q cs t hq h3 h4) h3 h4
theorem PutFrame.below {w0 w w' : World} (h : PutFrame w0 w) (b : Below w.heap.size w w') : PutFrame w0 w' := h.trans fun q cs t hq _ _ => hq.below b hq.lt
theorem PutFrame.grownMap {w0 w w' : World} (hf : PutFrame w0 w) {mb n : Nat} {look : List UInt8 → Option Value} (h : MapIs hashOk hashEnc w mb n look) (gr : w.grownBy w' (some mb)) : PutFrame w0 w' := hf.trans fun q cs t hq _ _ => hq.grown gr (fun e => h.ne hq (by simpa using e.symm))
theorem PutFrame.grownBlk {w0 w w' : World} (hf : PutFrame w0 w) {g : Nat} {cs : Array Value} (h : Blk w g cs 23) (gr : w.grownBy w' (some g)) : PutFrame w0 w' := hf.trans fun q cs' t hq _ h4 => hq.grown gr (fun e => by
  have e2 : q = g := by simpa using e
  subst e2
  unfold Blk at h hq
  rw [h] at hq
  cases hq
  exact h4 rfl)
theorem PutFrame.grownOwn {w0 w w' : World} (hf : PutFrame w0 w) {base : Nat} {v : Value} {l : List HsT} (h : HashOwn w base 26 v l) (gr : w.grownBy w' v.ownBlock) : PutFrame w0 w' := hf.trans fun q cs t hq h3 _ => hq.grown gr (fun e => own_ne h.2 hq (fun e2 => h3 e2.symm) e.symm)
/-- The slice lies below (where it holds anything). -/
def LowV (v : Value) (l : List HsT) (base : Nat) : Prop := l ≠ [] → ∀ q, v.ownBlock = some q → q < base
theorem HashesAt.belowB {w w' : World} {base : Nat} {v : Value} {l : List HsT} (h : HashesAt w v l) (hv : LowV v l base) (b : Below base w w') : HashesAt w' v l := by
  refine ⟨h.1, ?_⟩
  rcases h.2 with h0 | ⟨g, o, c, rfl, hc, hlt, hcell⟩
  · exact .inl h0
  · refine .inr ⟨g, o, c, rfl, hc, Nat.lt_of_lt_of_le hlt b.size, fun j u hj => (b.cell (p := ⟨g, o + j, none⟩) (hv (fun e => by rw [e] at hj; simp at hj) g rfl)).trans (hcell j u hj)⟩
theorem HashOwn.ne_blk {w : World} {base : Nat} {e t : TypeId} {v : Value} {l : List HsT} (h : HashOwn w base e v l) {q : Nat} {cs : Array Value} (hq : Blk w q cs t) (he : e ≠ t) : some q ≠ v.ownBlock := fun e2 => own_ne h.2 hq he e2.symm
theorem newT_len : ∀ (l O : List HsT), (newT O l).length ≤ l.length
  | [], _ => Nat.le_refl _
  | x :: l, O => by
    rw [newT]
    by_cases hx : x ∈ O
    · rw [if_pos hx, List.length_cons]; exact Nat.le_succ_of_le (newT_len l O)
    · rw [if_neg hx, List.length_cons, List.length_cons]; exact Nat.succ_le_succ (newT_len l _)
theorem blk_ne {w : World} {a b : Nat} {cs ds : Array Value} {t u : TypeId} (h : Blk w a cs t) (g : Blk w b ds u) (ht : t ≠ u) : a ≠ b := fun e => by
  subst e
  unfold Blk at h g
  rw [h] at g
  cases g
  exact ht rfl
theorem own_cells {w : World} {base : Nat} {e : TypeId} {size n : Nat} {v : Value} {xs : List Value} (h : w.ownsRow base e size v n xs) : v.cells = #[v] := by
  obtain ⟨ao, c, rfl⟩ := own_slice h
  rfl
theorem own_one {w : World} {base : Nat} {e : TypeId} {size n : Nat} {v : Value} {xs : List Value} (h : w.ownsRow base e size v n xs) : v.oneCell' = true := by
  obtain ⟨ao, c, rfl⟩ := own_slice h
  rfl
theorem Try.neHM : 26 ≠ 75 := by decide
theorem Try.neHS : 26 ≠ 23 := by decide
theorem Try.neMS : 75 ≠ 23 := by decide
set_option maxHeartbeats 8000000 in
set_option maxRecDepth 100000 in
theorem put_calls4 (v : Value) (l : List HsT) (base ob mb tb : Nat) (O T : List HsT) (w : World) (hl : HashesAt w v l) (hv : LowV v l base) (hn : l.length ≤ 1000000) (hO : O.length + l.length ≤ 2000000) (hT : T.length + l.length ≤ 1000000) (hbw : base ≤ w.heap.size) (K : KPut w base ob mb tb O T) :
    Calls Try.prog 50 #[v, .pointer (some ⟨ob, 0, none⟩), .pointer (some ⟨tb, 0, none⟩)] w fun e w' => e = .returned (.tuple #[]) ∧ KPut w' base ob mb tb (O ++ newT O l) (T ++ newT O l) ∧ PutFrame w w' ∧ Below base w w' := by
  obtain ⟨ao, c, rfl, hc⟩ := hl.slice
  have H := Lib.hid hl
  have HK := Lib.hid K
  have HV := Lib.hid hv
  obtain ⟨n, hne⟩ : ∃ n, n = l.length := ⟨_, rfl⟩
  rw [← hne] at hc hn H HV hO hT ⊢
  have HN := Lib.hid hne
  clear hl hne K hv
  go_enter Try.func50, Try.ntmps50
  go_wp2_with fail
  go_loopw [8] (fun i wr => ∃ (k : Nat), k ≤ n ∧ i = .int .i64 (k : Nat) ∧ Hid (KPut wr base ob mb tb (O ++ newT O (l.take k)) (T ++ newT O (l.take k))) ∧ Hid (PutFrame w wr) ∧ Hid (Below base w wr)) (fun i _ => n - (intOf i).toNat)
  case atStart => exact ⟨0, by omega, rfl, Lib.hid (by simpa [newT] using HK.out), Lib.hid (PutFrame.refl _), Lib.hid ((Below.refl _ _).mono hbw)⟩
  case round =>
    obtain ⟨k, hk, rfl, hKP, hF, hB⟩ := hrel
    have hL := Lib.hid (H.out.belowB HV.out hB.out)
    by_cases hlt : k < n
    · obtain ⟨s, hs⟩ : ∃ s, l[k]? = some s := ⟨l[k]'(by rw [← HN.out]; exact hlt), List.getElem?_eq_getElem _⟩
      have HS := Lib.hid (hL.out.1 s (List.mem_of_getElem? hs))
      obtain ⟨g, o, rfl, hr⟩ := hL.out.range k s hs
      have HRG := Lib.hid hr
      have hnw : Hid (newT O (l.take (k + 1)) = newT O (l.take k) ++ (if s ∈ O ++ newT O (l.take k) then [] else [s])) := by
        show _ = _
        obtain ⟨h3, h4⟩ := List.getElem?_eq_some_iff.1 hs
        rw [List.take_succ_eq_append_getElem h3, h4, newT_snoc]
      obtain ⟨O1, hO1⟩ : ∃ O1, O1 = O ++ newT O (l.take k) := ⟨_, rfl⟩
      obtain ⟨T1, hT1⟩ : ∃ T1, T1 = T ++ newT O (l.take k) := ⟨_, rfl⟩
      have HLN := Lib.hid (newT_len (l.take k) O)
      have HTN : Hid (T1.length ≤ 1000000) := by
        show _ ≤ _
        have e1 := HLN.out
        rw [hT1, List.length_append]
        rw [List.length_take] at e1
        omega
      rw [← hO1, ← hT1] at hKP
      rw [← hO1] at hnw
      have HO1 := Lib.hid hO1
      have HT1 := Lib.hid hT1
      clear hO1 hT1 HLN
      obtain ⟨hOb, hm0, ⟨tv, hTb, ho0⟩, hab, hok0⟩ := hKP.out
      have HM := Lib.hid hm0
      have HTO := Lib.hid ho0
      have HAB := Lib.hid hab
      have hF1 := hF
      have hB1 := hB.out
      obtain ⟨aot, ct, rfl⟩ := HTO.out.slice
      clear hm0 ho0 hab hKP hF hB hs hr hL
      by_cases hin : s ∈ O1
      · have HOK : Hid (∀ h ∈ O1, h.length = 32) := hok0
        have hnw : Hid (newT O (l.take (k + 1)) = newT O (l.take k)) := by
          show _ = _
          rw [hnw.out, if_pos hin, List.append_nil]
        have HLK : Hid ((outLook O1 s).getD (.bool false) = .bool true) := by show _ = _; simp [outLook, hin]
        clear hin hok0
        go_wp2_with (first | ((with_reducible show wpList _ _ _ (⟨some 11, _, _, _, _, _⟩ :: _) _ _); refine wpList_load_mid rfl 26 (.tmp 10) rfl g (o + k * 32) (by rfl) (s.map bv) _ (HRG.out) Try.underlying26 rfl (by rw [List.length_map, HS.out]; exact Try.sizeHash) ?_) | ((with_reducible show wpList _ _ _ (⟨some 5, _, _, _, _, _⟩ :: _) _ _); refine wpList_allocZ rfl 26 rfl _ Try.zeroHash ?_; intro wq1 hsq2 baq3 hNq4) | ((with_reducible show wpList _ _ _ (⟨none, Op.store _ (.tmp 5) _, _, _, _, _⟩ :: _) _ _); refine wpList_storeBlk rfl 26 (.tmp 5) (.tmp 11) rfl (wr.heap.size) ((s.map bv).toArray) (by rfl) (by rfl) _ _ hNq4 (by rw [bv_size, HS.out]; exact Try.sizeHash) (by rw [bv_size, HS.out, Z32_size]) (bv_all _) ?_; intro wq5 hKq6 gq7; have bbq8 := below_new baq3 gq7 (Nat.le_refl _) baq3.size; have ltq9 : ob < wr.heap.size := hOb.lt; have ltq10 : tb < wr.heap.size := hTb.lt; have hCq11 := hOb.below bbq8 hOb.lt; have hCq12 := hTb.below bbq8 hTb.lt; have hCq13 := Lib.hid (HM.out.below bbq8); have hCq14 := Lib.hid (HTO.out.below bbq8); have hCq15 := Lib.hid (hF1.out.below bbq8); have hBq16 := hB1.trans (bbq8.mono (Nat.le_trans hbw hB1.size)); clear hOb hTb HM HTO hF1 hB1; clear bbq8 baq3 hNq4 gq7 hsq2) | ((with_reducible show wpList _ _ _ (⟨some 12, _, _, _, _, _⟩ :: _) _ _); refine wpList_load1 rfl 75 (.tmp 1) rfl (ob) 0 (by rfl) _ _ (hCq11.cell 0 _ rfl) Try.underlying75 rfl ?_) | ((with_reducible show wpList _ _ _ (⟨some 13, _, _, _, _, _⟩ :: _) _ _); refine wpList_load_mid rfl 26 (.tmp 5) rfl (wr.heap.size) 0 (by rfl) (s.map bv) _ (blk_rangeP hKq6) Try.underlying26 rfl (by rw [List.length_map, HS.out]; exact Try.sizeHash) ?_) | ((with_reducible show wpList _ _ _ (⟨some 14, _, _, _, _, _⟩ :: _) _ _); refine wpList_lookV rfl Try.hashKey (.tmp 12) (.tmp 13) 75 4 rfl Try.underlying75 (.bool false) (Try.zeroBool _) mb _ _ (by rfl) hCq13.out s HS.out (by rfl) (.bool true) HLK.out ?_))
        go_roundw
        case rel => exact ⟨k + 1, by omega, by go_num, Lib.hid (by rw [hnw.out, ← HO1.out, ← HT1.out]; exact ⟨hCq11, hCq13.out, ⟨_, hCq12, hCq14.out⟩, HAB.out, HOK.out⟩), hCq15, Lib.hid hBq16⟩
        case measure => simp [intOf]; omega
      · have HOK : Hid (∀ h ∈ O1 ++ [s], h.length = 32) := by
          intro h hh
          rcases List.mem_append.1 hh with hh | hh
          · exact hok0 h hh
          · rw [List.mem_singleton.1 hh]; exact HS.out
        have hnw : Hid (newT O (l.take (k + 1)) = newT O (l.take k) ++ [s]) := by
          show _ = _
          rw [hnw.out, if_neg hin]
        have HLK : Hid ((outLook O1 s).getD (.bool false) = .bool false) := by show _ = _; simp [outLook, hin]
        have HNO := Lib.hid hin
        clear hin hok0
        go_wp2_with (first | ((with_reducible show wpList _ _ _ (⟨some 11, _, _, _, _, _⟩ :: _) _ _); refine wpList_load_mid rfl 26 (.tmp 10) rfl g (o + k * 32) (by rfl) (s.map bv) _ (HRG.out) Try.underlying26 rfl (by rw [List.length_map, HS.out]; exact Try.sizeHash) ?_) | ((with_reducible show wpList _ _ _ (⟨some 5, _, _, _, _, _⟩ :: _) _ _); refine wpList_allocZ rfl 26 rfl _ Try.zeroHash ?_; intro wq17 hsq18 baq19 hNq20) | ((with_reducible show wpList _ _ _ (⟨none, Op.store _ (.tmp 5) _, _, _, _, _⟩ :: _) _ _); refine wpList_storeBlk rfl 26 (.tmp 5) (.tmp 11) rfl (wr.heap.size) ((s.map bv).toArray) (by rfl) (by rfl) _ _ hNq20 (by rw [bv_size, HS.out]; exact Try.sizeHash) (by rw [bv_size, HS.out, Z32_size]) (bv_all _) ?_; intro wq21 hKq22 gq23; have bbq24 := below_new baq19 gq23 (Nat.le_refl _) baq19.size; have ltq25 : ob < wr.heap.size := hOb.lt; have ltq26 : tb < wr.heap.size := hTb.lt; have hCq27 := hOb.below bbq24 hOb.lt; have hCq28 := hTb.below bbq24 hTb.lt; have hCq29 := Lib.hid (HM.out.below bbq24); have hCq30 := Lib.hid (HTO.out.below bbq24); have hCq31 := Lib.hid (hF1.out.below bbq24); have hBq32 := hB1.trans (bbq24.mono (Nat.le_trans hbw hB1.size)); clear hOb hTb HM HTO hF1 hB1; clear bbq24 baq19 hNq20 gq23 hsq18) | ((with_reducible show wpList _ _ _ (⟨some 12, _, _, _, _, _⟩ :: _) _ _); refine wpList_load1 rfl 75 (.tmp 1) rfl (ob) 0 (by rfl) _ _ (hCq27.cell 0 _ rfl) Try.underlying75 rfl ?_) | ((with_reducible show wpList _ _ _ (⟨some 13, _, _, _, _, _⟩ :: _) _ _); refine wpList_load_mid rfl 26 (.tmp 5) rfl (wr.heap.size) 0 (by rfl) (s.map bv) _ (blk_rangeP hKq22) Try.underlying26 rfl (by rw [List.length_map, HS.out]; exact Try.sizeHash) ?_) | ((with_reducible show wpList _ _ _ (⟨some 14, _, _, _, _, _⟩ :: _) _ _); refine wpList_lookV rfl Try.hashKey (.tmp 12) (.tmp 13) 75 4 rfl Try.underlying75 (.bool false) (Try.zeroBool _) mb _ _ (by rfl) hCq29.out s HS.out (by rfl) (.bool false) HLK.out ?_) | ((with_reducible show wpList _ _ _ (⟨some 16, _, _, _, _, _⟩ :: _) _ _); refine wpList_load1 rfl 75 (.tmp 1) rfl (ob) 0 (by rfl) _ _ (hCq27.cell 0 _ rfl) Try.underlying75 rfl ?_) | ((with_reducible show wpList _ _ _ (⟨some 17, _, _, _, _, _⟩ :: _) _ _); refine wpList_load_mid rfl 26 (.tmp 5) rfl (wr.heap.size) 0 (by rfl) (s.map bv) _ (blk_rangeP hKq22) Try.underlying26 rfl (by rw [List.length_map, HS.out]; exact Try.sizeHash) ?_) | ((with_reducible show wpList _ _ _ (⟨none, Op.mapUpdate _ _ _ _, _, _, _, _⟩ :: _) _ _); refine wpList_upd rfl Try.hashKey (.tmp 16) (.tmp 17) (.const (.bool true)) 75 4 rfl Try.underlying75 mb _ _ (by rfl) hCq29.out s HS.out (by rfl) (.bool true) (by rfl) ?_; intro wm1 hm1 gm1; have hOb2 := hCq27.grown gm1 (fun e => hCq29.out.ne hCq27 (by simpa using e.symm)); have hTb2 := hCq28.grown gm1 (fun e => hCq29.out.ne hCq28 (by simpa using e.symm)); have hH2 := hKq22.grown gm1 (fun e => hCq29.out.ne hKq22 (by simpa using e.symm)); have HTO2 := Lib.hid (hCq30.out.kept gm1 (.inr (fun e => hCq29.out.own_ne hCq30.out.2 e.symm))); have hF2 := Lib.hid (hCq31.out.grownMap hCq29.out gm1); have hB2 := hBq32.grown gm1 (Nat.le_trans hbw hBq32.size) (fun q e => by cases e; exact HAB.out.1); have HM2 := Lib.hid hm1; clear hm1 gm1 hCq27 hCq28 hKq22 hCq30 hCq31 hCq29 hBq32) | ((with_reducible show wpList _ _ _ (⟨some 18, _, _, _, _, _⟩ :: _) _ _); refine wpList_load1 rfl 23 (.tmp 2) rfl (tb) 0 (by rfl) _ _ (hTb2.cell 0 _ rfl) Try.underlying23 rfl ?_) | ((with_reducible show wpList _ _ _ (⟨some 19, _, _, _, _, _⟩ :: _) _ _); refine wpList_load_mid rfl 26 (.tmp 5) rfl (wr.heap.size) 0 (by rfl) (s.map bv) _ (blk_rangeP hH2) Try.underlying26 rfl (by rw [List.length_map, HS.out]; exact Try.sizeHash) ?_) | ((with_reducible show wpList _ _ _ (⟨some 20, _, _, _, _, _⟩ :: _) _ _); refine wpList_bsH rfl 23 26 (.tmp 19) rfl s HS.out (by rfl) Try.underlying23 Try.infoHash2 ?_; intro q w3 eq3 sz3 b3 hN3; have ltq36 : ob < wm1.heap.size := hOb2.lt; have ltq37 : tb < wm1.heap.size := hTb2.lt; have ltq38 : wr.heap.size < wm1.heap.size := hH2.lt; have hCq39 := hOb2.below b3 hOb2.lt; have hCq40 := hTb2.below b3 hTb2.lt; have hCq41 := Lib.hid (HM2.out.below b3); have hCq42 := Lib.hid (HTO2.out.below b3); have hCq43 := Lib.hid (hF2.out.below b3); have hCq44 := hH2.below b3 hH2.lt; have hBq45 := hB2.trans (b3.mono (Nat.le_trans hbw hB2.size)); clear hOb2 hTb2 HM2 HTO2 hF2 hH2 hB2; clear b3 eq3 sz3) | ((with_reducible show wpList _ _ _ (⟨some 21, _, _, _, _, _⟩ :: _) _ _); refine wpList_append_h rfl (.tmp 18) (.tmp 20) 23 rfl base 26 Try.underlying23 Try.infoHash3 _ T1 s HS.out (by rfl) hCq42.out q 1 (by rfl) _ hN3 HTN.out (Nat.le_trans hbw hBq45.size) ?_; intro v4 w4 hO4 g4; have hOb4 := hCq39.grown g4 (hCq42.out.ne_blk hCq39 Try.neHM); have hTb4 := hCq40.grown g4 (hCq42.out.ne_blk hCq40 Try.neHS); have HM4 := Lib.hid (hCq41.out.kept g4 (hCq41.out.own_ne hCq42.out.2)); have hF4 := Lib.hid (hCq43.out.grownOwn hCq42.out g4); have hB4 := hBq45.grown g4 (Nat.le_trans hbw hBq45.size) (fun q e => (hCq42.out.lt q e).1); have HO4 := Lib.hid hO4; clear hO4 hN3 g4 hCq39 hCq40 hCq41 hCq42 hCq43 hCq44 hBq45) | ((with_reducible show wpList _ _ _ (⟨none, Op.store _ (.tmp 2) _, _, _, _, _⟩ :: _) _ _); refine wpList_storeL rfl 23 (.tmp 2) (.tmp 21) rfl tb v4 (by rfl) (by rfl) _ _ hTb4 (own_cells HO4.out.2) (own_one HO4.out.2) Try.sizeHs ?_; intro w5 hTb5 g5; have hOb5 := hOb4.grown g5 (fun e => blk_ne hOb4 hTb4 Try.neMS (by simpa using e)); have HM5 := Lib.hid (HM4.out.kept g5 (fun e => HM4.out.ne hTb4 (by simpa using e))); have hF5 := Lib.hid (hF4.out.grownBlk hTb4 g5); have hB5 := hB4.grown g5 (Nat.le_trans hbw hB4.size) (fun q e => by cases e; exact HAB.out.2); have HO5 := Lib.hid (HO4.out.kept g5 (.inr (fun e => HO4.out.ne_blk hTb4 Try.neHS e.symm))); clear g5 hOb4 HM4 hF4 hB4 HO4 hTb4))
        go_roundw
        case rel => exact ⟨k + 1, by omega, by go_num, Lib.hid (by rw [hnw.out, ← List.append_assoc, ← List.append_assoc, ← HO1.out, ← HT1.out]; exact ⟨hOb5, by rw [List.length_append]; exact HM5.out.congr (fun x _ => congrFun (outLook_snoc _ _ HNO.out) x), ⟨_, hTb5, HO5.out⟩, HAB.out, HOK.out⟩), hF5, Lib.hid hB5⟩
        case measure => simp [intOf]; omega
    · obtain rfl : k = n := by omega
      have hf : Hid (l.take k = l) := by show _ = _; rw [HN.out, List.take_length]
      rw [hf.out] at hKP
      go_wp2_with fail
      go_returns
      exact ⟨rfl, hKP.out, hF.out, hB.out⟩
end Go.Proofs.Ytjlpdbaknhbgdaa
