/-
  KeysNotes: the walk.
-/
import Derived.Test.YtnfegmcdljejnaaPrimBk
import Derived.Test.YtnfegmcdljejnaaKeysMakeBk
import Derived.Test.YtnfegmcdljejnaaRefMake
import Derived.Test.YtnfegmcdljejnaaRefApp
import Derived.Test.YtnfegmcdljejnaaAwakeKeys
import Derived.WalkLawsBesides
import Derived.Outline
import Derived.Handy
set_option linter.unusedSimpArgs false
set_option linter.unusedVariables false
namespace Go.Proofs.Ytnfegmcdljejnaa
open Go.RowKit

def sec (Y : List UInt8) (i : Nat) : List UInt8 := (Y.drop (i * 32)).take 32
theorem sec_len {Y : List UInt8} (hY : Y.length = 224) {i : Nat} (hi : i < 7) : (sec Y i).length = 32 := by
  unfold sec
  rw [List.length_take, List.length_drop]
  omega
theorem sec_range {w : World} {b : Nat} {t : TypeId} {Y : List UInt8} (h : Blk w b (Y.map bv).toArray t) {i : Nat} (hi : i < 7) : w.rangeAt b (i * 32) ((sec Y i).map bv) := fun j v hj => by
  have hj2 : j < 32 := by
    have := (List.getElem?_eq_some_iff.1 hj).1
    rw [List.length_map] at this
    unfold sec at this
    rw [List.length_take] at this
    omega
  refine h.cell (i * 32 + j) v ?_
  rw [List.getElem?_toArray]
  rw [List.getElem?_map] at hj ⊢
  rw [← hj]
  unfold sec
  rw [List.getElem?_take_of_lt hj2, List.getElem?_drop]
theorem sec_zero {a b : List UInt8} (ha : a.length = 32) : sec (a ++ b) 0 = a := by
  unfold sec
  rw [Nat.zero_mul, List.drop_zero, List.take_append_of_le_length (by omega), List.take_of_length_le (by omega)]
theorem sec_last {a : List UInt8} (ha : a.length = 32) : sec a 0 = a := by
  unfold sec
  rw [Nat.zero_mul, List.drop_zero, List.take_of_length_le (by omega)]
theorem sec_succ {a b : List UInt8} (ha : a.length = 32) (i : Nat) : sec (a ++ b) (i + 1) = sec b i := by
  unfold sec
  rw [show (i + 1) * 32 = a.length + i * 32 by omega, List.drop_append]
  rw [List.drop_eq_nil_of_le (by omega), List.nil_append]
  congr 2
  omega
/-- What keys.Make notes, told by the secrets. -/
def secsFacts (Y : List UInt8) : List FactT := [⟨[sec Y 0], [sec Y 1]⟩, ⟨[sec Y 0], [sec Y 2]⟩, ⟨[sec Y 2], [sec Y 3]⟩, ⟨[sec Y 2], [sec Y 4]⟩, ⟨[sec Y 2], [sec Y 5]⟩, ⟨[sec Y 2], [sec Y 6]⟩]
theorem secsT_len (a c : List UInt8) (ha : a.length = 32) : (secsT a c).length = 224 := by
  have h1 : ∀ k l m, (derive k l m).length = 32 := fun k l m => hmac_len _ _
  have h2 : (epochT a c).length = 32 := hmac_len _ _
  simp only [secsT, s7, List.length_append, h1, h2, ha]
theorem makeNotes_eq (o : Option BkSt) (a c : List UInt8) (ha : a.length = 32) : makeNotes o a c = (secsFacts (secsT a c)).foldl bkNote o := by
  have h1 : ∀ k l m, (derive k l m).length = 32 := fun k l m => hmac_len _ _
  have h2 : (epochT a c).length = 32 := hmac_len _ _
  have e0 : sec (secsT a c) 0 = a := sec_zero ha
  have e1 : sec (secsT a c) 1 = derive a lWelcome [] := by unfold secsT s7; rw [sec_succ ha, sec_zero (h1 _ _ _)]
  have e2 : sec (secsT a c) 2 = epochT a c := by unfold secsT s7; rw [sec_succ ha, sec_succ (h1 _ _ _), sec_zero h2]
  have e3 : sec (secsT a c) 3 = derive (epochT a c) lInit [] := by unfold secsT s7; rw [sec_succ ha, sec_succ (h1 _ _ _), sec_succ h2, sec_zero (h1 _ _ _)]
  have e4 : sec (secsT a c) 4 = derive (epochT a c) lConfirm [] := by unfold secsT s7; rw [sec_succ ha, sec_succ (h1 _ _ _), sec_succ h2, sec_succ (h1 _ _ _), sec_zero (h1 _ _ _)]
  have e5 : sec (secsT a c) 5 = derive (epochT a c) lApps [] := by unfold secsT s7; rw [sec_succ ha, sec_succ (h1 _ _ _), sec_succ h2, sec_succ (h1 _ _ _), sec_succ (h1 _ _ _), sec_zero (h1 _ _ _)]
  have e6 : sec (secsT a c) 6 = derive (epochT a c) lExport [] := by unfold secsT s7; rw [sec_succ ha, sec_succ (h1 _ _ _), sec_succ h2, sec_succ (h1 _ _ _), sec_succ (h1 _ _ _), sec_succ (h1 _ _ _), sec_last (h1 _ _ _)]
  simp only [secsFacts, e0, e1, e2, e3, e4, e5, e6, List.foldl_cons, List.foldl_nil]
  rfl
theorem foldl_bk : ∀ (l : List FactT) (s : BkSt), l.foldl bkNote (some s) = some { s with fs := l.foldl noteT s.fs }
  | [], s => rfl
  | f :: l, s => by
    rw [List.foldl_cons, List.foldl_cons]
    exact foldl_bk l _
theorem foldl_okN : ∀ (l : List FactT), (∀ f ∈ l, FOk f) → ∀ fs : List FactT, (∀ f ∈ fs, FOk f) → ∀ f ∈ l.foldl noteT fs, FOk f
  | [], _, fs, h2, f, hf => h2 f hf
  | g :: l, h1, fs, h2, f, hf => foldl_okN l (fun q hq => h1 q (List.mem_cons_of_mem _ hq)) _ (noteT_ok h2 (h1 g List.mem_cons_self)) f hf
theorem secsFacts_ok {Y : List UInt8} (hY : Y.length = 224) : ∀ f ∈ secsFacts Y, FOk f := fun f hf => by
  unfold secsFacts at hf
  simp only [List.mem_cons, List.not_mem_nil, or_false] at hf
  rcases hf with rfl | rfl | rfl | rfl | rfl | rfl <;> exact FOk.of11 (sec_len hY (by omega)) (sec_len hY (by omega))
theorem foldl_lenN : ∀ (l fs : List FactT), (l.foldl noteT fs).length ≤ fs.length + l.length
  | [], fs => Nat.le_refl _
  | f :: l, fs => by
    have h1 := foldl_lenN l (noteT fs f)
    have h2 := noteT_len1 fs f
    rw [List.foldl_cons, List.length_cons]; omega
theorem RFactsOwn.sliceR {A : Nat → Prop} {w : World} {base : Nat} {v : Value} {fs : List FactT} (h : RFactsOwn A w base v fs) : ∃ ao n c, v = .slice ao n c ∧ n = fs.length := by
  obtain ⟨ao, c, e, -⟩ := h.at.slice
  exact ⟨_, _, _, e, rfl⟩
theorem foldl_ins : ∀ (l fs : List FactT), ((l.foldl noteT fs).flatMap (·.ins)).length ≤ (fs.flatMap (·.ins)).length + (l.flatMap (·.ins)).length
  | [], fs => by simp
  | f :: l, fs => by
    have h1 := foldl_ins l (noteT fs f)
    have h2 := noteT_ins fs f
    rw [List.foldl_cons, List.flatMap_cons, List.length_append]; omega
theorem foldl_outs : ∀ (l fs : List FactT), ((l.foldl noteT fs).flatMap (·.outs)).length ≤ (fs.flatMap (·.outs)).length + (l.flatMap (·.outs)).length
  | [], fs => by simp
  | f :: l, fs => by
    have h1 := foldl_outs l (noteT fs f)
    have h2 := noteT_outs fs f
    rw [List.foldl_cons, List.flatMap_cons, List.length_append]; omega
theorem secsFacts_small (Y : List UInt8) : ((secsFacts Y).foldl noteT []).length ≤ 6 ∧ (((secsFacts Y).foldl noteT []).flatMap (·.ins)).length ≤ 6 ∧ (((secsFacts Y).foldl noteT []).flatMap (·.outs)).length ≤ 6 :=
  ⟨foldl_lenN (secsFacts Y) [], foldl_ins (secsFacts Y) [], foldl_outs (secsFacts Y) []⟩
set_option maxHeartbeats 16000000 in
set_option maxRecDepth 100000 in
theorem walkKeysNotes (j : List UInt8) (hj : j.length = 32) (c : List UInt8) (hcm : c.length ≤ maxLen) (p : Int) (hwp : (Lit.int .i64 p).wf = true) (u : Int) (hwu : (Lit.int .u8 u).wf = true) (w : World) :
    Calls Try.prog 23 #[.agg (j.map bv).toArray, .string (str c), .int .i64 p, .int .u8 u] w fun e w' => e = .returned (.bool true) ∧ Below w.heap.size w w' := by
  obtain ⟨base, hbase⟩ : ∃ base, base = w.heap.size := ⟨_, rfl⟩
  have HBS : Hid (base = w.heap.size) := hbase
  rw [← hbase]
  have HJ := Lib.hid hj
  clear hj
  unfold maxLen at hcm
  have hB0 := Below.refl base w
  by_cases hl : c.length ≤ 5000
  · have hlb : decide ((c.length : Int) > 5000) = false := by rw [decide_eq_false_iff_not]; omega
    have HCL : Hid (c.length ≤ 68719476736) := by show _ ≤ _; omega
    obtain ⟨Y, hY⟩ : ∃ Y, Y = secsT j c := ⟨_, rfl⟩
    have HY : Hid (Y.length = 224) := by show _ = _; rw [hY]; exact secsT_len j c HJ.out
    have HMN : Hid (∀ o, makeNotes o j c = (secsFacts Y).foldl bkNote o) := fun o => by rw [hY]; exact makeNotes_eq o j c HJ.out
    have HYV := Lib.hid hY
    clear hY
    go_enter Try.func23, Try.ntmps23
    go_wp2_with ((with_reducible show wpList _ _ _ (⟨some 4, _, _, _, _, _⟩ :: _) _ _); refine wpList_boxA rfl 23 (.tmp 0) rfl (j.map bv).toArray (by rfl) ?_; intro wq15 bq16 nq17; have hBq18 := hB0.trans (bq16.mono (Nat.le_trans (Nat.le_of_eq HBS.out) hB0.size)); clear hB0; clear bq16)
    have ltq21 : w.heap.size < wq15.heap.size := nq17.lt
    refine (awake_calls _).mono ?_
    rintro e wq19 ⟨rfl, bq20⟩
    have hCq22 := nq17.below bq20 nq17.lt
    have hBq23 := hBq18.trans (bq20.mono (Nat.le_trans (Nat.le_of_eq HBS.out) hBq18.size))
    clear nq17 hBq18
    clear bq20
    go_wp2_with fail
    have ltq24 : w.heap.size < wq19.heap.size := hCq22.lt
    refine (BNew_calls _).mono ?_
    rintro e w5 ⟨b, sm, nm, dm, rfl, hbi, b5⟩
    obtain ⟨B, hB⟩ : ∃ B, B = wq19.heap.size := ⟨_, rfl⟩
    have hBb : base ≤ B := by rw [hB]; exact Nat.le_trans (Nat.le_of_eq HBS.out) hBq23.size
    have hB5 : B ≤ w5.heap.size := by rw [hB]; exact b5.size
    rw [← hB] at hbi
    have hCq25 := hCq22.below b5 hCq22.lt
    have hBq26 := hBq23.trans (b5.mono (Nat.le_trans (Nat.le_of_eq HBS.out) hBq23.size))
    clear hCq22 hBq23
    have HBK0 : Hid (BkAt (fun q => q < B) w5 B (some { b := b, sm := sm, nm := nm, dm := dm, fs := [], names := fun _ => none })) := ⟨hbi, fun f hf => (by cases hf), fun s v h => (by cases h)⟩
    have HBB : Hid (base ≤ B) := hBb
    clear hbi b5 hB
    go_wp2_with ((with_reducible show wpList _ _ _ (⟨some 28, _, _, _, _, _⟩ :: _) _ _); refine wpList_load_mid rfl 23 (.tmp 4) rfl (w.heap.size) 0 (by rfl) (j.map bv) _ (blk_rangeP hCq25) Try.underlying23 rfl (by rw [List.length_map, HJ.out]; exact Try.sizeHash) ?_)
    have ltq27 : w.heap.size < w5.heap.size := hCq25.lt
    refine (MakeO_calls (A := fun q => q < B) j c B _ (.pointer (some ⟨b, 0, none⟩)) rfl _ HBK0.out ⟨by simp, by simp⟩ hB5 (fun q h => Nat.lt_of_lt_of_le h hB5) HJ.out HCL.out).mono ?_
    rintro e w6 ⟨rfl, hbk, hf, hbb⟩
    rw [← HYV.out]
    rw [HMN.out, foldl_bk] at hbk
    obtain ⟨FS, hFS⟩ : ∃ x, x = (secsFacts Y).foldl noteT [] := ⟨_, rfl⟩
    have HFS := Lib.hid hFS
    rw [← hFS] at hbk
    have HBK := Lib.hid hbk
    have hJ6 := hCq25.frm hf (by unfold NT; decide)
    have hB6 := hBq26.trans (hbb.mono HBB.out)
    have hBw6 : B ≤ w6.heap.size := Nat.le_trans hB5 hbb.size
    have hz224 : Try.zeroCells34.size = 224 := by rw [Try.zeroRefSecs]; simp [s7, z32]
    clear hbk hf hbb hFS hCq25 hBq26 HBK0 hB5
    go_wp2_with ((with_reducible show wpList _ _ _ (⟨some 31, _, _, _, _, _⟩ :: _) _ _); refine wpList_load_mid rfl 23 (.tmp 4) rfl (w.heap.size) 0 (by rfl) (j.map bv) _ (blk_rangeP hJ6) Try.underlying23 rfl (by rw [List.length_map, HJ.out]; exact Try.sizeHash) ?_)
    have ltq30 : w.heap.size < w6.heap.size := hJ6.lt
    refine (RefMake_calls j c _ HJ.out HCL.out).mono ?_
    rintro e wq28 ⟨rfl, bq29⟩
    have hCq31 := hJ6.below bq29 hJ6.lt
    have hCq32 := Lib.hid (HBK.out.below bq29)
    have hBq33 := hB6.trans (bq29.mono (Nat.le_trans (Nat.le_of_eq HBS.out) hB6.size))
    clear hJ6 HBK hB6
    clear bq29
    rw [← HYV.out]
    have HMS0 : Hid ((∀ g ∈ ([] : List FactT), FOk g) ∧ ([] : List FactT).length ≤ 0) := ⟨fun g hg => (by cases hg), Nat.le_refl _⟩
    have HL0 : Hid (∀ x, RFactsOwn (fun _ => False) x base (.slice none 0 0) []) := fun x => RFactsOwn.nil _ _ _
    go_wp2_with (first | ((with_reducible show wpList _ _ _ (⟨some 10, _, _, _, _, _⟩ :: _) _ _); refine wpList_allocZ rfl 34 rfl _ Try.infoRefSecs ?_; intro wq34 hsq35 baq36 hNq37) | ((with_reducible show wpList _ _ _ (⟨none, Op.store _ (.tmp 10) _, _, _, _, _⟩ :: _) _ _); refine wpList_storeBlk rfl 34 (.tmp 10) (.tmp 33) rfl (wq28.heap.size) ((Y.map bv).toArray) (by rfl) (by rfl) _ _ hNq37 (by rw [bv_size, HY.out]; exact Try.sizeRefSecs) (by rw [bv_size, HY.out, hz224]) (bv_all _) ?_; intro wq38 hKq39 gq40; have bbq41 := below_new baq36 gq40 (Nat.le_refl _) baq36.size; have ltq42 : w.heap.size < wq28.heap.size := hCq31.lt; have hCq43 := hCq31.below bbq41 hCq31.lt; have hCq44 := Lib.hid (hCq32.out.below bbq41); have hBq45 := hBq33.trans (bbq41.mono (Nat.le_trans (Nat.le_of_eq HBS.out) hBq33.size)); clear hCq31 hCq32 hBq33; clear bbq41 baq36 hNq37 gq40 hsq35) | ((with_reducible show wpList _ _ _ (⟨some 37, _, _, _, _, _⟩ :: _) _ _); refine wpList_load_mid rfl 22 (.tmp 36) rfl (wq28.heap.size) 32 (by rfl) ((sec Y 1).map bv) _ (sec_range hKq39 (i := 1) (by omega)) Try.underlying22 rfl (by rw [List.length_map, (sec_len HY.out (i := 1) (by omega))]; exact Try.sizeA32) ?_) | ((with_reducible show wpList _ _ _ (⟨some 38, _, _, _, _, _⟩ :: _) _ _); refine wpList_bsH rfl 90 22 (.tmp 37) rfl (sec Y 1) (sec_len HY.out (i := 1) (by omega)) (by rfl) Try.underlying90 Try.infoH2 ?_; intro qq46 wq47 eqq48 szq49 bbq50 hNq51; have qq46l : base ≤ qq46 := (by rw [eqq48]; exact Nat.le_trans (Nat.le_of_eq HBS.out) hBq45.size); have ltq52 : w.heap.size < wq38.heap.size := hCq43.lt; have ltq53 : wq28.heap.size < wq38.heap.size := hKq39.lt; have hCq54 := hCq43.below bbq50 hCq43.lt; have hCq55 := Lib.hid (hCq44.out.below bbq50); have hCq56 := hKq39.below bbq50 hKq39.lt; have hBq57 := hBq45.trans (bbq50.mono (Nat.le_trans (Nat.le_of_eq HBS.out) hBq45.size)); clear hCq43 hCq44 hKq39 hBq45; have O1 := Lib.hid (HashOwn.one (base := base) hNq51 (sec_len HY.out (i := 1) (by omega)) qq46l); clear bbq50 eqq48 szq49 hNq51) | ((with_reducible show wpList _ _ _ (⟨some 40, _, _, _, _, _⟩ :: _) _ _); refine wpList_load_mid rfl 22 (.tmp 39) rfl (wq28.heap.size) 0 (by rfl) ((sec Y 0).map bv) _ (sec_range hCq56 (i := 0) (by omega)) Try.underlying22 rfl (by rw [List.length_map, (sec_len HY.out (i := 0) (by omega))]; exact Try.sizeA32) ?_) | ((with_reducible show wpList _ _ _ (⟨some 41, _, _, _, _, _⟩ :: _) _ _); refine wpList_bsH rfl 90 22 (.tmp 40) rfl (sec Y 0) (sec_len HY.out (i := 0) (by omega)) (by rfl) Try.underlying90 Try.infoH2 ?_; intro qq58 wq59 eqq60 szq61 bbq62 hNq63; have qq58l : base ≤ qq58 := (by rw [eqq60]; exact Nat.le_trans (Nat.le_of_eq HBS.out) hBq57.size); have ltq64 : w.heap.size < wq47.heap.size := hCq54.lt; have ltq65 : wq28.heap.size < wq47.heap.size := hCq56.lt; have hCq66 := hCq54.below bbq62 hCq54.lt; have hCq67 := Lib.hid (hCq55.out.below bbq62); have hCq68 := hCq56.below bbq62 hCq56.lt; have hCq69 := Lib.hid (O1.out.below bbq62); have hBq70 := hBq57.trans (bbq62.mono (Nat.le_trans (Nat.le_of_eq HBS.out) hBq57.size)); clear hCq54 hCq55 hCq56 O1 hBq57; have I1 := Lib.hid (HashOwn.one (base := base) hNq63 (sec_len HY.out (i := 0) (by omega)) qq58l); clear bbq62 eqq60 szq61 hNq63))
    have ltq73 : w.heap.size < wq59.heap.size := hCq66.lt
    have ltq74 : wq28.heap.size < wq59.heap.size := hCq68.lt
    refine (Made_calls _ _ 1 1 1 1 _).mono ?_
    rintro e wq71 ⟨rfl, bq72⟩
    have hCq75 := hCq66.below bq72 hCq66.lt
    have hCq76 := Lib.hid (hCq67.out.below bq72)
    have hCq77 := hCq68.below bq72 hCq68.lt
    have hCq78 := Lib.hid (hCq69.out.below bq72)
    have hCq79 := Lib.hid (I1.out.below bq72)
    have hBq80 := hBq70.trans (bq72.mono (Nat.le_trans (Nat.le_of_eq HBS.out) hBq70.size))
    clear hCq66 hCq67 hCq68 hCq69 I1 hBq70
    clear bq72
    go_wp2_with fail
    have ltq81 : w.heap.size < wq71.heap.size := hCq75.lt
    have ltq82 : wq28.heap.size < wq71.heap.size := hCq77.lt
    refine (RefNote_calls (A := fun _ => False) _ _ _ ⟨[(sec Y 0)], [(sec Y 1)]⟩ [] base _ (HL0.out _) hCq79.out hCq78.out (FOk.of11 (sec_len HY.out (i := 0) (by omega)) (sec_len HY.out (i := 1) (by omega))) HMS0.out.1 (Nat.le_trans HMS0.out.2 (by omega)) (Nat.le_trans (Nat.le_of_eq HBS.out) hBq80.size) (fun q h => h.elim)).mono ?_
    rintro e wq83 ⟨vq87, rfl, hRq84, hFq85, hBq86⟩
    obtain ⟨m1, hm1⟩ : ∃ x, x = noteT [] ⟨[(sec Y 0)], [(sec Y 1)]⟩ := ⟨_, rfl⟩
    rw [← hm1] at hRq84
    have HMV1 := Lib.hid hm1
    have HMS1 : Hid ((∀ g ∈ m1, FOk g) ∧ m1.length ≤ 1) := ⟨by rw [hm1]; exact noteT_ok HMS0.out.1 (FOk.of11 (sec_len HY.out (i := 0) (by omega)) (sec_len HY.out (i := 1) (by omega))), by rw [hm1]; exact Nat.le_trans (noteT_len1 _ _) (Nat.succ_le_succ HMS0.out.2)⟩
    clear hm1
    have hCq88 := hCq75.frm hFq85 (by decide)
    have hCq89 := Lib.hid (hCq76.out.frm hFq85 (by decide))
    have hCq90 := hCq77.frm hFq85 (by decide)
    have HLq91 := Lib.hid hRq84
    have hBq92 := hBq80.trans hBq86
    clear hRq84 hFq85 hBq86 hBq80 hCq79 hCq78 hCq75 hCq76 hCq77
    go_wp2_with (first | ((with_reducible show wpList _ _ _ (⟨some 49, _, _, _, _, _⟩ :: _) _ _); refine wpList_load_mid rfl 22 (.tmp 48) rfl (wq28.heap.size) 64 (by rfl) ((sec Y 2).map bv) _ (sec_range hCq90 (i := 2) (by omega)) Try.underlying22 rfl (by rw [List.length_map, (sec_len HY.out (i := 2) (by omega))]; exact Try.sizeA32) ?_) | ((with_reducible show wpList _ _ _ (⟨some 50, _, _, _, _, _⟩ :: _) _ _); refine wpList_bsH rfl 90 22 (.tmp 49) rfl (sec Y 2) (sec_len HY.out (i := 2) (by omega)) (by rfl) Try.underlying90 Try.infoH2 ?_; intro qq93 wq94 eqq95 szq96 bbq97 hNq98; have qq93l : base ≤ qq93 := (by rw [eqq95]; exact Nat.le_trans (Nat.le_of_eq HBS.out) hBq92.size); have ltq99 : w.heap.size < wq83.heap.size := hCq88.lt; have ltq100 : wq28.heap.size < wq83.heap.size := hCq90.lt; have hCq101 := hCq88.below bbq97 hCq88.lt; have hCq102 := Lib.hid (hCq89.out.below bbq97); have hCq103 := hCq90.below bbq97 hCq90.lt; have hCq104 := Lib.hid (HLq91.out.below bbq97); have hBq105 := hBq92.trans (bbq97.mono (Nat.le_trans (Nat.le_of_eq HBS.out) hBq92.size)); clear hCq88 hCq89 hCq90 HLq91 hBq92; have O2 := Lib.hid (HashOwn.one (base := base) hNq98 (sec_len HY.out (i := 2) (by omega)) qq93l); clear bbq97 eqq95 szq96 hNq98) | ((with_reducible show wpList _ _ _ (⟨some 52, _, _, _, _, _⟩ :: _) _ _); refine wpList_load_mid rfl 22 (.tmp 51) rfl (wq28.heap.size) 0 (by rfl) ((sec Y 0).map bv) _ (sec_range hCq103 (i := 0) (by omega)) Try.underlying22 rfl (by rw [List.length_map, (sec_len HY.out (i := 0) (by omega))]; exact Try.sizeA32) ?_) | ((with_reducible show wpList _ _ _ (⟨some 53, _, _, _, _, _⟩ :: _) _ _); refine wpList_bsH rfl 90 22 (.tmp 52) rfl (sec Y 0) (sec_len HY.out (i := 0) (by omega)) (by rfl) Try.underlying90 Try.infoH2 ?_; intro qq106 wq107 eqq108 szq109 bbq110 hNq111; have qq106l : base ≤ qq106 := (by rw [eqq108]; exact Nat.le_trans (Nat.le_of_eq HBS.out) hBq105.size); have ltq112 : w.heap.size < wq94.heap.size := hCq101.lt; have ltq113 : wq28.heap.size < wq94.heap.size := hCq103.lt; have hCq114 := hCq101.below bbq110 hCq101.lt; have hCq115 := Lib.hid (hCq102.out.below bbq110); have hCq116 := hCq103.below bbq110 hCq103.lt; have hCq117 := Lib.hid (hCq104.out.below bbq110); have hCq118 := Lib.hid (O2.out.below bbq110); have hBq119 := hBq105.trans (bbq110.mono (Nat.le_trans (Nat.le_of_eq HBS.out) hBq105.size)); clear hCq101 hCq102 hCq103 hCq104 O2 hBq105; have I2 := Lib.hid (HashOwn.one (base := base) hNq111 (sec_len HY.out (i := 0) (by omega)) qq106l); clear bbq110 eqq108 szq109 hNq111))
    have ltq122 : w.heap.size < wq107.heap.size := hCq114.lt
    have ltq123 : wq28.heap.size < wq107.heap.size := hCq116.lt
    refine (Made_calls _ _ 1 1 1 1 _).mono ?_
    rintro e wq120 ⟨rfl, bq121⟩
    have hCq124 := hCq114.below bq121 hCq114.lt
    have hCq125 := Lib.hid (hCq115.out.below bq121)
    have hCq126 := hCq116.below bq121 hCq116.lt
    have hCq127 := Lib.hid (hCq117.out.below bq121)
    have hCq128 := Lib.hid (hCq118.out.below bq121)
    have hCq129 := Lib.hid (I2.out.below bq121)
    have hBq130 := hBq119.trans (bq121.mono (Nat.le_trans (Nat.le_of_eq HBS.out) hBq119.size))
    clear hCq114 hCq115 hCq116 hCq117 hCq118 I2 hBq119
    clear bq121
    go_wp2_with fail
    have ltq131 : w.heap.size < wq120.heap.size := hCq124.lt
    have ltq132 : wq28.heap.size < wq120.heap.size := hCq126.lt
    refine (RefNote_calls (A := fun _ => False) _ _ _ ⟨[(sec Y 0)], [(sec Y 2)]⟩ m1 base _ hCq127.out hCq129.out hCq128.out (FOk.of11 (sec_len HY.out (i := 0) (by omega)) (sec_len HY.out (i := 2) (by omega))) HMS1.out.1 (Nat.le_trans HMS1.out.2 (by omega)) (Nat.le_trans (Nat.le_of_eq HBS.out) hBq130.size) (fun q h => h.elim)).mono ?_
    rintro e wq133 ⟨vq137, rfl, hRq134, hFq135, hBq136⟩
    obtain ⟨m2, hm2⟩ : ∃ x, x = noteT m1 ⟨[(sec Y 0)], [(sec Y 2)]⟩ := ⟨_, rfl⟩
    rw [← hm2] at hRq134
    have HMV2 := Lib.hid hm2
    have HMS2 : Hid ((∀ g ∈ m2, FOk g) ∧ m2.length ≤ 2) := ⟨by rw [hm2]; exact noteT_ok HMS1.out.1 (FOk.of11 (sec_len HY.out (i := 0) (by omega)) (sec_len HY.out (i := 2) (by omega))), by rw [hm2]; exact Nat.le_trans (noteT_len1 _ _) (Nat.succ_le_succ HMS1.out.2)⟩
    clear hm2
    have hCq138 := hCq124.frm hFq135 (by decide)
    have hCq139 := Lib.hid (hCq125.out.frm hFq135 (by decide))
    have hCq140 := hCq126.frm hFq135 (by decide)
    have HLq141 := Lib.hid hRq134
    have hBq142 := hBq130.trans hBq136
    clear hRq134 hFq135 hBq136 hBq130 hCq127 hCq129 hCq128 hCq124 hCq125 hCq126
    obtain ⟨al, hal⟩ : ∃ al, al = [(sec Y 3), (sec Y 4), (sec Y 5), (sec Y 6)] := ⟨_, rfl⟩
    have HAL := Lib.hid hal
    have HAL32 : Hid (∀ h ∈ al, h.length = 32) := by
      show ∀ h ∈ al, h.length = 32
      rw [hal]
      intro h hh
      simp only [List.mem_cons, List.not_mem_nil, or_false] at hh
      rcases hh with rfl | rfl | rfl | rfl <;> exact sec_len HY.out (by omega)
    clear hal
    go_wp2_with (first | ((with_reducible show wpList _ _ _ (⟨some 59, _, _, _, _, _⟩ :: _) _ _); refine wpList_load_mid rfl 22 (.tmp 58) rfl (wq28.heap.size) 96 (by rfl) ((sec Y 3).map bv) _ (sec_range hCq140 (i := 3) (by omega)) Try.underlying22 rfl (by rw [List.length_map, (sec_len HY.out (i := 3) (by omega))]; exact Try.sizeA32) ?_) | ((with_reducible show wpList _ _ _ (⟨some 61, _, _, _, _, _⟩ :: _) _ _); refine wpList_load_mid rfl 22 (.tmp 60) rfl (wq28.heap.size) 128 (by rfl) ((sec Y 4).map bv) _ (sec_range hCq140 (i := 4) (by omega)) Try.underlying22 rfl (by rw [List.length_map, (sec_len HY.out (i := 4) (by omega))]; exact Try.sizeA32) ?_) | ((with_reducible show wpList _ _ _ (⟨some 63, _, _, _, _, _⟩ :: _) _ _); refine wpList_load_mid rfl 22 (.tmp 62) rfl (wq28.heap.size) 160 (by rfl) ((sec Y 5).map bv) _ (sec_range hCq140 (i := 5) (by omega)) Try.underlying22 rfl (by rw [List.length_map, (sec_len HY.out (i := 5) (by omega))]; exact Try.sizeA32) ?_) | ((with_reducible show wpList _ _ _ (⟨some 65, _, _, _, _, _⟩ :: _) _ _); refine wpList_load_mid rfl 22 (.tmp 64) rfl (wq28.heap.size) 192 (by rfl) ((sec Y 6).map bv) _ (sec_range hCq140 (i := 6) (by omega)) Try.underlying22 rfl (by rw [List.length_map, (sec_len HY.out (i := 6) (by omega))]; exact Try.sizeA32) ?_) | ((with_reducible show wpList _ _ _ (⟨some 66, _, _, _, _, _⟩ :: _) _ _); refine wpList_bsHs rfl 90 22 4 #[(0, .tmp 59), (1, .tmp 61), (2, .tmp 63), (3, .tmp 65)] rfl al (by rw [HAL.out]; rfl) (by omega) (by omega) HAL32.out (by rw [HAL.out]; simp only [List.map_toArray, List.map_cons, List.map_nil, List.zipIdx_cons, List.zipIdx_nil]; rfl) Try.underlying90 Try.infoH2 ?_; intro qq143 wq144 eqq145 szq146 bbq147 hNq148; have qq143l : base ≤ qq143 := (by rw [eqq145]; exact Nat.le_trans (Nat.le_of_eq HBS.out) hBq142.size); have ltq149 : w.heap.size < wq133.heap.size := hCq138.lt; have ltq150 : wq28.heap.size < wq133.heap.size := hCq140.lt; have hCq151 := hCq138.below bbq147 hCq138.lt; have hCq152 := Lib.hid (hCq139.out.below bbq147); have hCq153 := hCq140.below bbq147 hCq140.lt; have hCq154 := Lib.hid (HLq141.out.below bbq147); have hBq155 := hBq142.trans (bbq147.mono (Nat.le_trans (Nat.le_of_eq HBS.out) hBq142.size)); clear hCq138 hCq139 hCq140 HLq141 hBq142; have HOA := Lib.hid (hNq148.weakR qq143l); clear bbq147 eqq145 szq146 hNq148))
    obtain ⟨vao, vn, vc, rfl, hvn⟩ : ∃ ao n c, vq137 = .slice ao n c ∧ n = m2.length := by
      obtain ⟨ao, c, e, -⟩ := hCq154.out.at.slice
      exact ⟨_, _, _, e, rfl⟩
    clear hvn
    obtain ⟨W9, hW9⟩ : ∃ x, x = wq144 := ⟨_, rfl⟩
    have HW9 : Hid (base ≤ W9.heap.size) := by show _ ≤ _; rw [hW9]; exact Nat.le_trans (Nat.le_of_eq HBS.out) hBq155.size
    obtain ⟨mb, hmb⟩ : ∃ x, x = wq28.heap.size := ⟨_, rfl⟩
    obtain ⟨jb, hjb⟩ : ∃ x, x = w.heap.size := ⟨_, rfl⟩
    have HM9 : Hid (Blk W9 mb (Y.map bv).toArray 34) := by show Blk _ _ _ _; rw [hW9, hmb]; exact hCq153
    have HJ9 : Hid (Blk W9 jb (j.map bv).toArray 23) := by show Blk _ _ _ _; rw [hW9, hjb]; exact hCq151
    have HA9 : Hid (HashOwn W9 base 22 (.slice (some ⟨qq143, 0, none⟩) 4 4) al) := by show HashOwn _ _ _ _ _; rw [hW9]; exact HOA.out
    have HK9 : Hid (BkAt (fun q => q < B) W9 B (some { b := b, sm := sm, nm := nm, dm := dm, fs := FS, names := fun _ => none })) := by show BkAt _ _ _ _; rw [hW9]; exact hCq152.out
    have HL9 : Hid (RFactsOwn (fun _ => False) W9 base (.slice vao vn vc) m2) := by show RFactsOwn _ _ _ _ _; rw [hW9]; exact hCq154.out
    have HBW9 : Hid (B ≤ W9.heap.size) := HK9.out.le
    have HB9 : Hid (Below base w W9) := by show Below _ _ _; rw [hW9]; exact hBq155
    rw [← hW9, ← hmb, ← hjb]
    clear hW9 hmb hjb hBq155 hCq151 hCq152 hCq153 hCq154 HOA
    
    have HFR9 : Hid (Frm (fun _ => False) (fun t => t = 92) (fun _ => False) W9 W9) := Frm.refl _
    go_loopw [11, 13] (fun v i wr => ∃ (k : Nat) (ms : List FactT), k ≤ 4 ∧ i = .int .i64 (k : Nat) ∧ Hid (RFactsOwn (fun _ => False) wr base v ms) ∧ Hid (ms = ((secsFacts Y).take (2 + k)).foldl noteT []) ∧ Hid (Frm (fun _ => False) (fun t => t = 92) (fun _ => False) W9 wr) ∧ Hid (Below base w wr)) (fun _ i _ => 4 - (intOf i).toNat)
    case atStart => exact ⟨0, m2, by omega, rfl, HL9, (by show _ = _; rw [HMV2.out, HMV1.out]; rfl), HFR9, HB9⟩
    case round =>
      clear HL9 HFR9
      obtain ⟨k, ms, hk, rfl, HL, HMS, HFR, HB⟩ := hrel
      obtain ⟨vao, vn, vc, rfl, hvn⟩ := HL.out.sliceR
      have HVN := Lib.hid hvn
      clear hvn
      by_cases hlt : k < 4
      · obtain ⟨d, hd⟩ : ∃ d, d = sec Y (3 + k) := ⟨_, rfl⟩
        have HD : Hid (d.length = 32) := by show _ = _; rw [hd]; exact sec_len HY.out (by omega)
        have hk4 : k = 0 ∨ k = 1 ∨ k = 2 ∨ k = 3 := by omega
        have HDK : Hid (al[k]? = some d) := by
          show _ = _
          rw [HAL.out, hd]
          rcases hk4 with rfl | rfl | rfl | rfl <;> rfl
        have HFK : Hid ((secsFacts Y).take (2 + (k + 1)) = (secsFacts Y).take (2 + k) ++ [⟨[(sec Y 2)], [d]⟩]) := by
          show _ = _
          rw [hd]
          rcases hk4 with rfl | rfl | rfl | rfl <;> rfl
        have HMO : Hid ((∀ g ∈ ms, FOk g) ∧ ms.length ≤ 10000000) := by
          refine ⟨?_, ?_⟩
          · rw [HMS.out]
            exact foldl_okN _ (fun f hf => secsFacts_ok HY.out f (List.mem_of_mem_take hf)) _ (fun f hf => (by cases hf))
          · rw [HMS.out]
            refine Nat.le_trans (foldl_lenN _ _) ?_
            rw [List.length_take]
            simp only [List.length_nil]
            omega
        clear hd hk4
        have hMr := HM9.out.frm HFR.out (by decide)
        have hAr := HA9.out.frm HFR.out (by decide)
        have hBr := HB.out
        go_wp2_with fail
        refine wp_region_held_drew (S := fun x => Blk x (mb) (Y.map bv).toArray 34 ∧ HashOwn x base 22 (Value.slice (some ⟨qq143, 0, none⟩) 4 4) al ∧ Below base w x) (by kernel_rfl) ⟨hMr.drew, hAr.below (below_drewN (Below.refl _ _) 1), below_drewN hBr 1⟩ (fun hSq156 => ?_)
        have hHq157 := Lib.hid (HL.out.drew)
        have hHq158 := Lib.hid (HFR.out.drew)
        refine wpAnyH_take (i := 0) (v := Value.slice vao vn vc) rfl (by kernel_rfl) (by kernel_rfl) (by kernel_rfl) (fun _ _ _ h => h) (Or.inl ⟨by rfl, fun x hx => by go_simp⟩) hSq156 ?_
        simp only [Act.put, List.getElem_toArray, List.getElem_cons_zero, List.getElem_cons_succ, List.setIfInBounds_toArray, List.set_cons_zero, List.set_cons_succ]
        refine wpAnyH_take (i := 1) (v := Value.slice (some ⟨qq143, 0, none⟩) 4 4) rfl (by kernel_rfl) (by kernel_rfl) (by kernel_rfl) (fun _ _ _ h => h) (Or.inl ⟨by rfl, fun x hx => by go_simp⟩) hSq156 ?_
        simp only [Act.put, List.getElem_toArray, List.getElem_cons_zero, List.getElem_cons_succ, List.setIfInBounds_toArray, List.set_cons_zero, List.set_cons_succ]
        refine wpAnyH_take (i := 2) (v := Value.int .i64 (k : Nat)) rfl (by kernel_rfl) (by kernel_rfl) (by kernel_rfl) (fun _ _ _ h => h) (Or.inl ⟨by rfl, fun x hx => by go_simp⟩) hSq156 ?_
        simp only [Act.put, List.getElem_toArray, List.getElem_cons_zero, List.getElem_cons_succ, List.setIfInBounds_toArray, List.set_cons_zero, List.set_cons_succ]
        refine wpAnyH_take (i := 3) (v := Value.pointer (some ⟨qq143, k * 32, none⟩)) rfl (by kernel_rfl) (by kernel_rfl) (by kernel_rfl) (fun _ _ _ h => h) (Or.inl ⟨by rfl, fun x hx => by go_simp⟩) hSq156 ?_
        simp only [Act.put, List.getElem_toArray, List.getElem_cons_zero, List.getElem_cons_succ, List.setIfInBounds_toArray, List.set_cons_zero, List.set_cons_succ]
        refine wpAnyH_take (i := 4) rfl (by kernel_rfl) (by kernel_rfl) (by kernel_rfl) (fun _ _ _ h => h) (yieldsIf_load_mid (by rfl) 22 (.tmp 75) rfl (qq143) (k * 32) (by rfl) (d.map bv) _ (fun x hx => (by have e := hx.2.1.at.range' k d HDK.out; rwa [Nat.zero_add] at e)) Try.underlying22 rfl (by rw [List.length_map, HD.out]; exact Try.sizeA32)) hSq156 ?_
        simp only [Act.put, List.getElem_toArray, List.getElem_cons_zero, List.getElem_cons_succ, List.setIfInBounds_toArray, List.set_cons_zero, List.set_cons_succ]
        refine wpAnyH_take (i := 6) (v := Value.pointer (some ⟨mb, 64, none⟩)) rfl (by kernel_rfl) (by kernel_rfl) (by kernel_rfl) (fun _ _ _ h => h) (Or.inl ⟨by rfl, fun x hx => by go_simp⟩) hSq156 ?_
        simp only [Act.put, List.getElem_toArray, List.getElem_cons_zero, List.getElem_cons_succ, List.setIfInBounds_toArray, List.set_cons_zero, List.set_cons_succ]
        refine wpAnyH_take (i := 7) rfl (by kernel_rfl) (by kernel_rfl) (by kernel_rfl) (fun _ _ _ h => h) (yieldsIf_load_mid (by rfl) 22 (.tmp 78) rfl (mb) (64) (by rfl) ((sec Y 2).map bv) _ (fun x hx => sec_range hx.1 (i := 2) (by omega)) Try.underlying22 rfl (by rw [List.length_map, (sec_len HY.out (i := 2) (by omega))]; exact Try.sizeA32)) hSq156 ?_
        simp only [Act.put, List.getElem_toArray, List.getElem_cons_zero, List.getElem_cons_succ, List.setIfInBounds_toArray, List.set_cons_zero, List.set_cons_succ]
        refine wpAnyH_ready (rs := [5, 8]) (by kernel_rfl) (by simp) ?_
        refine AllReadyH.cons rfl (fun K hK => ?_) ?_
        · rw [if_pos (by rfl)]
          refine wp_bsH 90 22 (.tmp 76) rfl d HD.out (by rfl) Try.underlying90 Try.infoH2 ?_
          intro gq162 yq160 egq163 ezq164 bq159 hEq161
          have lgq165 : base ≤ gq162 := by rw [egq163]; exact Nat.le_trans (Nat.le_of_eq HBS.out) hSq156.2.2.size
          have lbq166 : mb < gq162 := by rw [egq163]; exact hSq156.1.lt
          have hHq167 := Lib.hid (hHq157.out.below bq159)
          have hHq168 := Lib.hid (hHq158.out.below bq159)
          refine hK.out _ _ ⟨hSq156.1.below bq159 hSq156.1.lt, hSq156.2.1.below bq159, hSq156.2.2.trans (bq159.mono (Nat.le_trans (Nat.le_of_eq HBS.out) hSq156.2.2.size))⟩ (fun hSq169 => ?_)
          clear hK K hSq156 bq159 egq163 ezq164
          refine wpAnyH_ready (rs := [8]) (by kernel_rfl) (by simp) ?_
          refine AllReadyH.cons rfl (fun K hK => ?_) AllReadyH.nil
          rw [if_pos (by rfl)]
          refine wp_bsH 90 22 (.tmp 79) rfl (sec Y 2) (sec_len HY.out (i := 2) (by omega)) (by rfl) Try.underlying90 Try.infoH2 ?_
          intro gq173 yq171 egq174 ezq175 bq170 hEq172
          have lgq176 : base ≤ gq173 := by rw [egq174]; exact Nat.le_trans (Nat.le_of_eq HBS.out) hSq169.2.2.size
          have lbq177 : mb < gq173 := by rw [egq174]; exact hSq169.1.lt
          have hEq178 := hEq161.below bq170 hEq161.lt
          have hHq179 := Lib.hid (hHq167.out.below bq170)
          have hHq180 := Lib.hid (hHq168.out.below bq170)
          refine hK.out _ _ ⟨hSq169.1.below bq170 hSq169.1.lt, hSq169.2.1.below bq170, hSq169.2.2.trans (bq170.mono (Nat.le_trans (Nat.le_of_eq HBS.out) hSq169.2.2.size))⟩ (fun hSq181 => ?_)
          clear hK K hSq169 bq170 egq174 ezq175
          refine wpAnyH_ready (rs := [9]) (by kernel_rfl) (by simp) ?_
          refine AllReadyH.cons rfl (fun K hK => ?_) AllReadyH.nil
          go_simp
          go_wp2_with (go_at_call 85; refine (Made_calls _ _ 1 1 1 1 _).mono ?_; rintro e yq182 ⟨rfl, bq183⟩)
          have hEq184 := hEq178.below bq183 hEq178.lt
          have hEq185 := hEq172.below bq183 hEq172.lt
          have hHq186 := Lib.hid (hHq179.out.below bq183)
          have hHq187 := Lib.hid (hHq180.out.below bq183)
          refine hK.out _ _ ⟨hSq181.1.below bq183 hSq181.1.lt, hSq181.2.1.below bq183, hSq181.2.2.trans (bq183.mono (Nat.le_trans (Nat.le_of_eq HBS.out) hSq181.2.2.size))⟩ (fun hSq188 => ?_)
          clear hK K hSq181 bq183
          refine wpAnyH_ready (rs := [10]) (by kernel_rfl) (by simp) ?_
          refine AllReadyH.cons rfl (fun K hK => ?_) AllReadyH.nil
          go_simp
          have hlo : base ≤ (yq182).heap.size := Nat.le_trans (Nat.le_of_eq HBS.out) hSq188.2.2.size
          go_wp2_with (go_at_call 73; refine (RefNote_calls (A := fun _ => False) _ _ _ ⟨[(sec Y 2)], [d]⟩ ms base _ hHq186.out (HashOwn.one hEq185 (sec_len HY.out (i := 2) (by omega)) lgq176) (HashOwn.one hEq184 HD.out lgq165) (FOk.of11 (sec_len HY.out (i := 2) (by omega)) HD.out) HMO.out.1 HMO.out.2 hlo (fun q h => h.elim)).mono ?_; rintro e yq189 ⟨v4, rfl, hR4, hF4, hB4⟩)
          obtain ⟨a4, n4, c4, rfl, hn4⟩ := hR4.sliceR
          have HR4 := Lib.hid hR4
          have HF4 := Lib.hid (hHq187.out.trans hF4)
          refine hK.out _ _ ⟨hSq188.1.frm hF4 (by decide), hSq188.2.1.frm hF4 (by decide), hSq188.2.2.trans hB4⟩ (fun hSq190 => ?_)
          clear hK K hSq188 hR4 hF4 hB4 hn4 hlo hHq186 hHq187
          refine wpAnyH_take (i := 11) (v := Value.tuple #[Value.slice a4 n4 c4, Value.int .i64 (noteE ⟨[(sec Y 2)], [d]⟩)]) rfl (by kernel_rfl) (by kernel_rfl) (by kernel_rfl) (fun _ _ _ h => h) (Or.inl ⟨by rfl, fun x hx => by go_simp⟩) hSq190 ?_
          simp only [Act.put, List.getElem_toArray, List.getElem_cons_zero, List.getElem_cons_succ, List.setIfInBounds_toArray, List.set_cons_zero, List.set_cons_succ]
          refine wpAnyH_take (i := 12) (v := Value.slice a4 n4 c4) rfl (by kernel_rfl) (by kernel_rfl) (by kernel_rfl) (fun _ _ _ h => h) (Or.inl ⟨by rfl, fun x hx => by go_simp⟩) hSq190 ?_
          simp only [Act.put, List.getElem_toArray, List.getElem_cons_zero, List.getElem_cons_succ, List.setIfInBounds_toArray, List.set_cons_zero, List.set_cons_succ]
          refine wpAnyH_take (i := 13) (v := Value.int .i64 (noteE ⟨[(sec Y 2)], [d]⟩)) rfl (by kernel_rfl) (by kernel_rfl) (by kernel_rfl) (fun _ _ _ h => h) (Or.inl ⟨by rfl, fun x hx => by go_simp⟩) hSq190 ?_
          simp only [Act.put, List.getElem_toArray, List.getElem_cons_zero, List.getElem_cons_succ, List.setIfInBounds_toArray, List.set_cons_zero, List.set_cons_succ]
          refine wpAnyH_ready (rs := [14]) (by kernel_rfl) (by simp) ?_
          refine AllReadyH.cons rfl (fun K hK => ?_) AllReadyH.nil
          go_simp
          refine hK.out _ _ hSq190 (fun hSq191 => ?_)
          clear hK K hSq190
          refine wpAnyH_done (by kernel_rfl) ?_ _
          have HB5 := Lib.hid hSq191.2.2
          clear hSq191
          go_wp2_with fail
          go_roundw
          case rel => exact ⟨k + 1, noteT ms ⟨[(sec Y 2)], [d]⟩, by omega, by go_num, HR4, (by show _ = _; rw [HFK.out, List.foldl_append, ← HMS.out]; rfl), HF4, HB5⟩
          case measure => simp [intOf]; omega
        refine AllReadyH.cons rfl (fun K hK => ?_) AllReadyH.nil
        rw [if_pos (by rfl)]
        refine wp_bsH 90 22 (.tmp 79) rfl (sec Y 2) (sec_len HY.out (i := 2) (by omega)) (by rfl) Try.underlying90 Try.infoH2 ?_
        intro gq195 yq193 egq196 ezq197 bq192 hEq194
        have lgq198 : base ≤ gq195 := by rw [egq196]; exact Nat.le_trans (Nat.le_of_eq HBS.out) hSq156.2.2.size
        have lbq199 : mb < gq195 := by rw [egq196]; exact hSq156.1.lt
        have hHq200 := Lib.hid (hHq157.out.below bq192)
        have hHq201 := Lib.hid (hHq158.out.below bq192)
        refine hK.out _ _ ⟨hSq156.1.below bq192 hSq156.1.lt, hSq156.2.1.below bq192, hSq156.2.2.trans (bq192.mono (Nat.le_trans (Nat.le_of_eq HBS.out) hSq156.2.2.size))⟩ (fun hSq202 => ?_)
        clear hK K hSq156 bq192 egq196 ezq197
        refine wpAnyH_ready (rs := [5]) (by kernel_rfl) (by simp) ?_
        refine AllReadyH.cons rfl (fun K hK => ?_) AllReadyH.nil
        rw [if_pos (by rfl)]
        refine wp_bsH 90 22 (.tmp 76) rfl d HD.out (by rfl) Try.underlying90 Try.infoH2 ?_
        intro gq206 yq204 egq207 ezq208 bq203 hEq205
        have lgq209 : base ≤ gq206 := by rw [egq207]; exact Nat.le_trans (Nat.le_of_eq HBS.out) hSq202.2.2.size
        have lbq210 : mb < gq206 := by rw [egq207]; exact hSq202.1.lt
        have hEq211 := hEq194.below bq203 hEq194.lt
        have hHq212 := Lib.hid (hHq200.out.below bq203)
        have hHq213 := Lib.hid (hHq201.out.below bq203)
        refine hK.out _ _ ⟨hSq202.1.below bq203 hSq202.1.lt, hSq202.2.1.below bq203, hSq202.2.2.trans (bq203.mono (Nat.le_trans (Nat.le_of_eq HBS.out) hSq202.2.2.size))⟩ (fun hSq214 => ?_)
        clear hK K hSq202 bq203 egq207 ezq208
        refine wpAnyH_ready (rs := [9]) (by kernel_rfl) (by simp) ?_
        refine AllReadyH.cons rfl (fun K hK => ?_) AllReadyH.nil
        go_simp
        go_wp2_with (go_at_call 85; refine (Made_calls _ _ 1 1 1 1 _).mono ?_; rintro e yq215 ⟨rfl, bq216⟩)
        have hEq217 := hEq211.below bq216 hEq211.lt
        have hEq218 := hEq205.below bq216 hEq205.lt
        have hHq219 := Lib.hid (hHq212.out.below bq216)
        have hHq220 := Lib.hid (hHq213.out.below bq216)
        refine hK.out _ _ ⟨hSq214.1.below bq216 hSq214.1.lt, hSq214.2.1.below bq216, hSq214.2.2.trans (bq216.mono (Nat.le_trans (Nat.le_of_eq HBS.out) hSq214.2.2.size))⟩ (fun hSq221 => ?_)
        clear hK K hSq214 bq216
        refine wpAnyH_ready (rs := [10]) (by kernel_rfl) (by simp) ?_
        refine AllReadyH.cons rfl (fun K hK => ?_) AllReadyH.nil
        go_simp
        have hlo : base ≤ (yq215).heap.size := Nat.le_trans (Nat.le_of_eq HBS.out) hSq221.2.2.size
        go_wp2_with (go_at_call 73; refine (RefNote_calls (A := fun _ => False) _ _ _ ⟨[(sec Y 2)], [d]⟩ ms base _ hHq219.out (HashOwn.one hEq217 (sec_len HY.out (i := 2) (by omega)) lgq198) (HashOwn.one hEq218 HD.out lgq209) (FOk.of11 (sec_len HY.out (i := 2) (by omega)) HD.out) HMO.out.1 HMO.out.2 hlo (fun q h => h.elim)).mono ?_; rintro e yq222 ⟨v4, rfl, hR4, hF4, hB4⟩)
        obtain ⟨a4, n4, c4, rfl, hn4⟩ := hR4.sliceR
        have HR4 := Lib.hid hR4
        have HF4 := Lib.hid (hHq220.out.trans hF4)
        refine hK.out _ _ ⟨hSq221.1.frm hF4 (by decide), hSq221.2.1.frm hF4 (by decide), hSq221.2.2.trans hB4⟩ (fun hSq223 => ?_)
        clear hK K hSq221 hR4 hF4 hB4 hn4 hlo hHq219 hHq220
        refine wpAnyH_take (i := 11) (v := Value.tuple #[Value.slice a4 n4 c4, Value.int .i64 (noteE ⟨[(sec Y 2)], [d]⟩)]) rfl (by kernel_rfl) (by kernel_rfl) (by kernel_rfl) (fun _ _ _ h => h) (Or.inl ⟨by rfl, fun x hx => by go_simp⟩) hSq223 ?_
        simp only [Act.put, List.getElem_toArray, List.getElem_cons_zero, List.getElem_cons_succ, List.setIfInBounds_toArray, List.set_cons_zero, List.set_cons_succ]
        refine wpAnyH_take (i := 12) (v := Value.slice a4 n4 c4) rfl (by kernel_rfl) (by kernel_rfl) (by kernel_rfl) (fun _ _ _ h => h) (Or.inl ⟨by rfl, fun x hx => by go_simp⟩) hSq223 ?_
        simp only [Act.put, List.getElem_toArray, List.getElem_cons_zero, List.getElem_cons_succ, List.setIfInBounds_toArray, List.set_cons_zero, List.set_cons_succ]
        refine wpAnyH_take (i := 13) (v := Value.int .i64 (noteE ⟨[(sec Y 2)], [d]⟩)) rfl (by kernel_rfl) (by kernel_rfl) (by kernel_rfl) (fun _ _ _ h => h) (Or.inl ⟨by rfl, fun x hx => by go_simp⟩) hSq223 ?_
        simp only [Act.put, List.getElem_toArray, List.getElem_cons_zero, List.getElem_cons_succ, List.setIfInBounds_toArray, List.set_cons_zero, List.set_cons_succ]
        refine wpAnyH_ready (rs := [14]) (by kernel_rfl) (by simp) ?_
        refine AllReadyH.cons rfl (fun K hK => ?_) AllReadyH.nil
        go_simp
        refine hK.out _ _ hSq223 (fun hSq224 => ?_)
        clear hK K hSq223
        refine wpAnyH_done (by kernel_rfl) ?_ _
        have HB5 := Lib.hid hSq224.2.2
        clear hSq224
        go_wp2_with fail
        go_roundw
        case rel => exact ⟨k + 1, noteT ms ⟨[(sec Y 2)], [d]⟩, by omega, by go_num, HR4, (by show _ = _; rw [HFK.out, List.foldl_append, ← HMS.out]; rfl), HF4, HB5⟩
        case measure => simp [intOf]; omega
      · obtain rfl : k = 4 := by omega
        have HMF : Hid (ms = FS) := by show _ = _; rw [HMS.out, HFS.out]; rfl
        simp only [Int.cast_ofNat_Int] at *
        have hM := HM9.out.frm HFR.out (by decide)
        have hJ := HJ9.out.frm HFR.out (by decide)
        have HALL : Hid (HashOwn wr base 22 (Value.slice (some ⟨qq143, 0, none⟩) 4 4) al) := HA9.out.frm HFR.out (by decide)
        have HBK : Hid (BkAt (fun q => q < B) wr B (some { b := b, sm := sm, nm := nm, dm := dm, fs := FS, names := fun _ => none })) := HK9.out.frm HFR.out (by decide)
        have HLF : Hid (RFactsOwn (fun _ => False) wr base (.slice vao vn vc) FS) := by show RFactsOwn _ _ _ _ _; rw [← HMF.out]; exact HL.out
        have hB := HB.out
        have hBle : B ≤ wr.heap.size := Nat.le_trans HBW9.out HFR.out.size
        have HFS6 : Hid (FS.length ≤ 6 ∧ (FS.flatMap (·.ins)).length ≤ 6 ∧ (FS.flatMap (·.outs)).length ≤ 6) := by show _ ∧ _ ∧ _; rw [HFS.out]; exact secsFacts_small Y
        have HFOK : Hid (∀ f ∈ FS, FOk f) := by show ∀ f ∈ FS, FOk f; rw [HFS.out]; exact foldl_okN _ (secsFacts_ok HY.out) _ (fun f hf => (by cases hf))
        clear HL HMS HFR HB HM9 HJ9 HA9 HK9 HMF
        by_cases hp : 0 ≤ p ∧ p < 64
        · have hp1 : decide (p ≥ 0) = true := by rw [decide_eq_true_eq]; omega
          have hp2 : decide (p < 64) = true := by rw [decide_eq_true_eq]; omega
          obtain ⟨y, hy⟩ : ∃ y, y = appT (sec Y 5) p.toNat := ⟨_, rfl⟩
          have HYA : Hid (y.length = 32) := by show _ = _; rw [hy]; exact appT_len _ _
          have HYE := Lib.hid hy
          clear hy
          go_wp2_with ((with_reducible show wpList _ _ _ (⟨some 87, _, _, _, _, _⟩ :: _) _ _); refine wpList_load_mid rfl 22 (.tmp 86) rfl (mb) 160 (by rfl) ((sec Y 5).map bv) _ (sec_range hM (i := 5) (by omega)) Try.underlying22 rfl (by rw [List.length_map, (sec_len HY.out (i := 5) (by omega))]; exact Try.sizeA32) ?_)
          have ltq225 : mb < wr.heap.size := hM.lt
          have ltq226 : jb < wr.heap.size := hJ.lt
          refine (AppO_calls (A := fun q => q < B) (sec Y 5) p B _ (.pointer (some ⟨b, 0, none⟩)) rfl _ HBK.out ⟨Nat.le_trans (Nat.add_le_add_right HFS6.out.1 1) (by omega), Nat.le_trans (Nat.add_le_add_right HFS6.out.2.1 (8 * 1)) (by omega)⟩ hBle (fun q h => Nat.lt_of_lt_of_le h hBle) (sec_len HY.out (i := 5) (by omega)) hp.1 hp.2).mono ?_
          rintro e x1 ⟨rfl, hbk, hf, hbb⟩
          rw [← HYE.out] at hbk ⊢
          obtain ⟨FF, hFF⟩ : ∃ x, x = noteT FS ⟨[(sec Y 5)], [y]⟩ := ⟨_, rfl⟩
          have HBK2 : Hid (BkAt (fun q => q < B) x1 B (some { b := b, sm := sm, nm := nm, dm := dm, fs := FF, names := fun _ => none })) := by rw [hFF]; exact hbk
          have HFFV := Lib.hid hFF
          have HFFO : Hid (∀ f ∈ FF, FOk f) := by show ∀ f ∈ FF, FOk f; rw [hFF]; exact noteT_ok HFOK.out (FOk.of11 (sec_len HY.out (i := 5) (by omega)) HYA.out)
          have HFFL : Hid (FF.length ≤ 10 ∧ (FF.flatMap (·.ins)).length ≤ 10 ∧ (FF.flatMap (·.outs)).length ≤ 10) := by
            show _ ∧ _ ∧ _
            rw [hFF]
            exact ⟨Nat.le_trans (noteT_len1 _ _) (Nat.le_trans (Nat.add_le_add_right HFS6.out.1 1) (by omega)), Nat.le_trans (noteT_ins _ _) (Nat.le_trans (Nat.add_le_add_right HFS6.out.2.1 1) (by omega)), Nat.le_trans (noteT_outs _ _) (Nat.le_trans (Nat.add_le_add_right HFS6.out.2.2 1) (by omega))⟩
          have hM2 := hM.frm hf (by unfold NT; decide)
          have hJ2 := hJ.frm hf (by unfold NT; decide)
          have HALL2 := Lib.hid (HALL.out.frm hf (by unfold NT; decide))
          have HLF2 := Lib.hid (HLF.out.frm hf (by unfold NT; decide) (by unfold NT; decide))
          have hB2 := hB.trans (hbb.mono HBB.out)
          clear hbk hf hbb hFF hB hM hJ HALL HBK HLF
          go_wp2_with fail
          refine wp_region_held_drew (S := fun x => Blk x (mb) (Y.map bv).toArray 34 ∧ Blk x (jb) (j.map bv).toArray 23 ∧ Below base w x) (by kernel_rfl) ⟨hM2.drew, hJ2.drew, below_drewN hB2 1⟩ (fun hSq227 => ?_)
          have hHq228 := Lib.hid (HLF2.out.drew)
          have hHq229 := Lib.hid (HBK2.out.drew)
          have hHq230 := Lib.hid (HALL2.out.drew)
          refine wpAnyH_take (i := 0) (v := Value.slice vao vn vc) rfl (by kernel_rfl) (by kernel_rfl) (by kernel_rfl) (fun _ _ _ h => h) (Or.inl ⟨by rfl, fun x hx => by go_simp⟩) hSq227 ?_
          simp only [Act.put, List.getElem_toArray, List.getElem_cons_zero, List.getElem_cons_succ, List.setIfInBounds_toArray, List.set_cons_zero, List.set_cons_succ]
          refine wpAnyH_take (i := 1) (v := Value.pointer (some ⟨mb, 160, none⟩)) rfl (by kernel_rfl) (by kernel_rfl) (by kernel_rfl) (fun _ _ _ h => h) (Or.inl ⟨by rfl, fun x hx => by go_simp⟩) hSq227 ?_
          simp only [Act.put, List.getElem_toArray, List.getElem_cons_zero, List.getElem_cons_succ, List.setIfInBounds_toArray, List.set_cons_zero, List.set_cons_succ]
          refine wpAnyH_take (i := 2) rfl (by kernel_rfl) (by kernel_rfl) (by kernel_rfl) (fun _ _ _ h => h) (yieldsIf_load_mid (by rfl) 22 (.tmp 98) rfl (mb) (160) (by rfl) ((sec Y 5).map bv) _ (fun x hx => sec_range hx.1 (i := 5) (by omega)) Try.underlying22 rfl (by rw [List.length_map, (sec_len HY.out (i := 5) (by omega))]; exact Try.sizeA32)) hSq227 ?_
          simp only [Act.put, List.getElem_toArray, List.getElem_cons_zero, List.getElem_cons_succ, List.setIfInBounds_toArray, List.set_cons_zero, List.set_cons_succ]
          refine wpAnyH_take (i := 3) (v := Value.int .i64 p) rfl (by kernel_rfl) (by kernel_rfl) (by kernel_rfl) (fun _ _ _ h => h) (Or.inl ⟨by rfl, fun x hx => by go_simp⟩) hSq227 ?_
          simp only [Act.put, List.getElem_toArray, List.getElem_cons_zero, List.getElem_cons_succ, List.setIfInBounds_toArray, List.set_cons_zero, List.set_cons_succ]
          refine wpAnyH_take (i := 6) (v := Value.pointer (some ⟨mb, 160, none⟩)) rfl (by kernel_rfl) (by kernel_rfl) (by kernel_rfl) (fun _ _ _ h => h) (Or.inl ⟨by rfl, fun x hx => by go_simp⟩) hSq227 ?_
          simp only [Act.put, List.getElem_toArray, List.getElem_cons_zero, List.getElem_cons_succ, List.setIfInBounds_toArray, List.set_cons_zero, List.set_cons_succ]
          refine wpAnyH_take (i := 7) rfl (by kernel_rfl) (by kernel_rfl) (by kernel_rfl) (fun _ _ _ h => h) (yieldsIf_load_mid (by rfl) 22 (.tmp 103) rfl (mb) (160) (by rfl) ((sec Y 5).map bv) _ (fun x hx => sec_range hx.1 (i := 5) (by omega)) Try.underlying22 rfl (by rw [List.length_map, (sec_len HY.out (i := 5) (by omega))]; exact Try.sizeA32)) hSq227 ?_
          simp only [Act.put, List.getElem_toArray, List.getElem_cons_zero, List.getElem_cons_succ, List.setIfInBounds_toArray, List.set_cons_zero, List.set_cons_succ]
          refine wpAnyH_ready (rs := [4, 8]) (by kernel_rfl) (by simp) ?_
          refine AllReadyH.cons rfl (fun K hK => ?_) ?_
          · go_simp
            go_wp2_with (go_at_call 33; refine (RefApp_calls (sec Y 5) p _ (sec_len HY.out (i := 5) (by omega)) hp.1 (by omega)).mono ?_; rintro e yq231 ⟨rfl, bq232⟩; rw [← HYE.out])
            have hHq233 := Lib.hid (hHq228.out.below bq232)
            have hHq234 := Lib.hid (hHq229.out.below bq232)
            have hHq235 := Lib.hid (hHq230.out.below bq232)
            refine hK.out _ _ ⟨hSq227.1.below bq232 hSq227.1.lt, hSq227.2.1.below bq232 hSq227.2.1.lt, hSq227.2.2.trans (bq232.mono (Nat.le_trans (Nat.le_of_eq HBS.out) hSq227.2.2.size))⟩ (fun hSq236 => ?_)
            clear hK K hSq227 bq232
            refine wpAnyH_ready (rs := [5, 8]) (by kernel_rfl) (by simp) ?_
            refine AllReadyH.cons rfl (fun K hK => ?_) ?_
            · rw [if_pos (by rfl)]
              refine wp_bsH 90 22 (.tmp 101) rfl y HYA.out (by rfl) Try.underlying90 Try.infoH2 ?_
              intro gq240 yq238 egq241 ezq242 bq237 hEq239
              have lgq243 : base ≤ gq240 := by rw [egq241]; exact Nat.le_trans (Nat.le_of_eq HBS.out) hSq236.2.2.size
              have lbq244 : mb < gq240 := by rw [egq241]; exact hSq236.1.lt
              have lbq245 : jb < gq240 := by rw [egq241]; exact hSq236.2.1.lt
              have hHq246 := Lib.hid (hHq233.out.below bq237)
              have hHq247 := Lib.hid (hHq234.out.below bq237)
              have hHq248 := Lib.hid (hHq235.out.below bq237)
              refine hK.out _ _ ⟨hSq236.1.below bq237 hSq236.1.lt, hSq236.2.1.below bq237 hSq236.2.1.lt, hSq236.2.2.trans (bq237.mono (Nat.le_trans (Nat.le_of_eq HBS.out) hSq236.2.2.size))⟩ (fun hSq249 => ?_)
              clear hK K hSq236 bq237 egq241 ezq242
              refine wpAnyH_ready (rs := [8]) (by kernel_rfl) (by simp) ?_
              refine AllReadyH.cons rfl (fun K hK => ?_) AllReadyH.nil
              rw [if_pos (by rfl)]
              refine wp_bsH 90 22 (.tmp 104) rfl (sec Y 5) (sec_len HY.out (i := 5) (by omega)) (by rfl) Try.underlying90 Try.infoH2 ?_
              intro gq253 yq251 egq254 ezq255 bq250 hEq252
              have lgq256 : base ≤ gq253 := by rw [egq254]; exact Nat.le_trans (Nat.le_of_eq HBS.out) hSq249.2.2.size
              have lbq257 : mb < gq253 := by rw [egq254]; exact hSq249.1.lt
              have lbq258 : jb < gq253 := by rw [egq254]; exact hSq249.2.1.lt
              have hEq259 := hEq239.below bq250 hEq239.lt
              have hHq260 := Lib.hid (hHq246.out.below bq250)
              have hHq261 := Lib.hid (hHq247.out.below bq250)
              have hHq262 := Lib.hid (hHq248.out.below bq250)
              refine hK.out _ _ ⟨hSq249.1.below bq250 hSq249.1.lt, hSq249.2.1.below bq250 hSq249.2.1.lt, hSq249.2.2.trans (bq250.mono (Nat.le_trans (Nat.le_of_eq HBS.out) hSq249.2.2.size))⟩ (fun hSq263 => ?_)
              clear hK K hSq249 bq250 egq254 ezq255
              refine wpAnyH_ready (rs := [9]) (by kernel_rfl) (by simp) ?_
              refine AllReadyH.cons rfl (fun K hK => ?_) AllReadyH.nil
              go_simp
              go_wp2_with (go_at_call 85; refine (Made_calls _ _ 1 1 1 1 _).mono ?_; rintro e yq264 ⟨rfl, bq265⟩)
              have hEq266 := hEq259.below bq265 hEq259.lt
              have hEq267 := hEq252.below bq265 hEq252.lt
              have hHq268 := Lib.hid (hHq260.out.below bq265)
              have hHq269 := Lib.hid (hHq261.out.below bq265)
              have hHq270 := Lib.hid (hHq262.out.below bq265)
              refine hK.out _ _ ⟨hSq263.1.below bq265 hSq263.1.lt, hSq263.2.1.below bq265 hSq263.2.1.lt, hSq263.2.2.trans (bq265.mono (Nat.le_trans (Nat.le_of_eq HBS.out) hSq263.2.2.size))⟩ (fun hSq271 => ?_)
              clear hK K hSq263 bq265
              refine wpAnyH_ready (rs := [10]) (by kernel_rfl) (by simp) ?_
              refine AllReadyH.cons rfl (fun K hK => ?_) AllReadyH.nil
              go_simp
              have hlo : base ≤ (yq264).heap.size := Nat.le_trans (Nat.le_of_eq HBS.out) hSq271.2.2.size
              go_wp2_with (go_at_call 73; refine (RefNote_calls (A := fun _ => False) _ _ _ ⟨[(sec Y 5)], [y]⟩ FS base _ hHq268.out (HashOwn.one hEq267 (sec_len HY.out (i := 5) (by omega)) lgq256) (HashOwn.one hEq266 HYA.out lgq243) (FOk.of11 (sec_len HY.out (i := 5) (by omega)) HYA.out) HFOK.out (Nat.le_trans HFS6.out.1 (by omega)) hlo (fun q h => h.elim)).mono ?_; rintro e yq272 ⟨v4, rfl, hR4, hF4, hB4⟩)
              rw [← HFFV.out] at hR4
              obtain ⟨a4, n4, c4, rfl, hn4⟩ := hR4.sliceR
              have HN4 := Lib.hid hn4
              have HR4 := Lib.hid hR4
              have HBK4 := Lib.hid (hHq269.out.frm hF4 (by decide))
              have HALL4 := Lib.hid (hHq270.out.frm hF4 (by decide))
              refine hK.out _ _ ⟨hSq271.1.frm hF4 (by decide), hSq271.2.1.frm hF4 (by decide), hSq271.2.2.trans hB4⟩ (fun hSq273 => ?_)
              clear hK K hSq271 hR4 hF4 hB4 hn4 hlo hHq268 hHq269 hHq270
              refine wpAnyH_take (i := 11) (v := Value.tuple #[Value.slice a4 n4 c4, Value.int .i64 (noteE ⟨[(sec Y 5)], [y]⟩)]) rfl (by kernel_rfl) (by kernel_rfl) (by kernel_rfl) (fun _ _ _ h => h) (Or.inl ⟨by rfl, fun x hx => by go_simp⟩) hSq273 ?_
              simp only [Act.put, List.getElem_toArray, List.getElem_cons_zero, List.getElem_cons_succ, List.setIfInBounds_toArray, List.set_cons_zero, List.set_cons_succ]
              refine wpAnyH_take (i := 12) (v := Value.slice a4 n4 c4) rfl (by kernel_rfl) (by kernel_rfl) (by kernel_rfl) (fun _ _ _ h => h) (Or.inl ⟨by rfl, fun x hx => by go_simp⟩) hSq273 ?_
              simp only [Act.put, List.getElem_toArray, List.getElem_cons_zero, List.getElem_cons_succ, List.setIfInBounds_toArray, List.set_cons_zero, List.set_cons_succ]
              refine wpAnyH_take (i := 13) (v := Value.int .i64 (noteE ⟨[(sec Y 5)], [y]⟩)) rfl (by kernel_rfl) (by kernel_rfl) (by kernel_rfl) (fun _ _ _ h => h) (Or.inl ⟨by rfl, fun x hx => by go_simp⟩) hSq273 ?_
              simp only [Act.put, List.getElem_toArray, List.getElem_cons_zero, List.getElem_cons_succ, List.setIfInBounds_toArray, List.set_cons_zero, List.set_cons_succ]
              refine wpAnyH_ready (rs := [14]) (by kernel_rfl) (by simp) ?_
              refine AllReadyH.cons rfl (fun K hK => ?_) AllReadyH.nil
              go_simp
              refine hK.out _ _ hSq273 (fun hSq274 => ?_)
              clear hK K hSq273
              refine wpAnyH_done (by kernel_rfl) ?_ _
              have hM5 := hSq274.1
              have hJ5 := hSq274.2.1
              have hB5 := hSq274.2.2
              clear hSq274
              have HUW : Hid (0 ≤ u ∧ u ≤ 255) := by
                have e := hwu
                simp [Lit.wf, IntKind.min, IntKind.max, IntKind.bits, IntKind.signed] at e
                exact ⟨by omega, by omega⟩
              obtain ⟨k7, hk7, hk7l⟩ : ∃ k7 : Nat, u % 7 = (k7 : Int) ∧ k7 < 7 := by
                have e := HUW.out
                exact ⟨(u % 7).toNat, by omega, by omega⟩
              have hu0 : 0 ≤ u := HUW.out.1
              have hu1 : u ≤ 255 := HUW.out.2
              have htm : u.tmod 7 = (k7 : Int) := by rw [Int.tmod_eq_emod_of_nonneg hu0]; exact hk7
              obtain ⟨bl, hbl⟩ : ∃ bl, bl = [(sec Y 0), (sec Y 2), (sec Y 1)] := ⟨_, rfl⟩
              have HBL := Lib.hid hbl
              have HBL32 : Hid (∀ h ∈ bl, h.length = 32) := by
                show ∀ h ∈ bl, h.length = 32
                rw [hbl]
                intro h hh
                simp only [List.mem_cons, List.not_mem_nil, or_false] at hh
                rcases hh with rfl | rfl | rfl <;> exact sec_len HY.out (by omega)
              have HLA : Hid (4 = al.length) := by show _ = _; rw [HAL.out]; rfl
              have HLB : Hid (3 = bl.length) := by show _ = _; rw [hbl]; rfl
              obtain ⟨gd, hgd⟩ : ∃ gd, (al ++ bl)[k7]? = some gd := ⟨(al ++ bl)[k7]'(by rw [List.length_append, ← HLA.out, ← HLB.out]; omega), List.getElem?_eq_getElem _⟩
              have HGK := Lib.hid hgd
              have HGD : Hid (gd.length = 32) := by
                show _ = _
                rcases List.mem_append.1 (List.mem_of_getElem? hgd) with e | e
                · exact HAL32.out gd e
                · exact HBL32.out gd e
              clear hbl hgd
              have HUN : Hid ((univ FF [gd]).length ≤ 500000) := by
                show _ ≤ _
                unfold univ
                have e := HFFL.out.2.2
                rw [List.length_append, List.length_singleton]
                omega
              go_wp2_with (first | ((with_reducible show wpList _ _ _ (⟨some 112, _, _, _, _, _⟩ :: _) _ _); refine wpList_load_mid rfl 22 (.tmp 111) rfl (mb) 0 (by rfl) ((sec Y 0).map bv) _ (sec_range hM5 (i := 0) (by omega)) Try.underlying22 rfl (by rw [List.length_map, (sec_len HY.out (i := 0) (by omega))]; exact Try.sizeA32) ?_) | ((with_reducible show wpList _ _ _ (⟨some 114, _, _, _, _, _⟩ :: _) _ _); refine wpList_load_mid rfl 22 (.tmp 113) rfl (mb) 64 (by rfl) ((sec Y 2).map bv) _ (sec_range hM5 (i := 2) (by omega)) Try.underlying22 rfl (by rw [List.length_map, (sec_len HY.out (i := 2) (by omega))]; exact Try.sizeA32) ?_) | ((with_reducible show wpList _ _ _ (⟨some 116, _, _, _, _, _⟩ :: _) _ _); refine wpList_load_mid rfl 22 (.tmp 115) rfl (mb) 32 (by rfl) ((sec Y 1).map bv) _ (sec_range hM5 (i := 1) (by omega)) Try.underlying22 rfl (by rw [List.length_map, (sec_len HY.out (i := 1) (by omega))]; exact Try.sizeA32) ?_) | ((with_reducible show wpList _ _ _ (⟨some 117, _, _, _, _, _⟩ :: _) _ _); refine wpList_bsHs rfl 90 22 3 #[(0, .tmp 112), (1, .tmp 114), (2, .tmp 116)] rfl bl (by rw [HBL.out]; rfl) (by omega) (by omega) HBL32.out (by rw [HBL.out]; simp only [List.map_toArray, List.map_cons, List.map_nil, List.zipIdx_cons, List.zipIdx_nil]; rfl) Try.underlying90 Try.infoH2 ?_; intro qq275 wq276 eqq277 szq278 bbq279 hNq280; have ltq281 : mb < yq272.heap.size := hM5.lt; have ltq282 : jb < yq272.heap.size := hJ5.lt; have hCq283 := hM5.below bbq279 hM5.lt; have hCq284 := hJ5.below bbq279 hJ5.lt; have hCq285 := Lib.hid (HALL4.out.below bbq279); have hCq286 := Lib.hid (HBK4.out.below bbq279); have hCq287 := Lib.hid (HR4.out.below bbq279); have hBq288 := hB5.trans (bbq279.mono (Nat.le_trans (Nat.le_of_eq HBS.out) hB5.size)); clear hM5 hJ5 HALL4 HBK4 HR4 hB5; have HOBq289 := Lib.hid hNq280; clear bbq279 eqq277 szq278 hNq280) | ((with_reducible show wpList _ _ _ (⟨some 118, _, _, _, _, _⟩ :: _) _ _); refine wpList_append_full rfl (.tmp 110) (.tmp 117) 90 rfl 22 Try.underlying90 Try.infoH3 qq143 4 al (by rfl) hCq285.out.at qq275 3 3 bl (by rfl) HOBq289.out.at HLA.out HLB.out (by omega) 7 rfl (by rw [← HLA.out, ← HLB.out]; omega) ?_; intro gq290 cq291 wq292 hgq293 hatq294 bq295; have ltq296 : mb < wq276.heap.size := hCq283.lt; have ltq297 : jb < wq276.heap.size := hCq284.lt; have hCq298 := hCq283.below bq295 hCq283.lt; have hCq299 := hCq284.below bq295 hCq284.lt; have hCq300 := Lib.hid (hCq285.out.below bq295); have hCq301 := Lib.hid (hCq286.out.below bq295); have hCq302 := Lib.hid (hCq287.out.below bq295); have hCq303 := Lib.hid (HOBq289.out.below bq295); have hBq304 := hBq288.trans (bq295.mono (Nat.le_trans (Nat.le_of_eq HBS.out) hBq288.size)); clear hCq283 hCq284 hCq285 hCq286 hCq287 HOBq289 hBq288; have HATq305 := Lib.hid hatq294; clear bq295 hgq293 hatq294) | ((with_reducible show wpList _ _ _ (⟨some 123, _, _, _, _, _⟩ :: _) _ _); refine wpList_load_mid rfl 22 (.tmp 122) rfl gq290 (k7 * 32) (by rfl) (gd.map bv) _ (by have e := HATq305.out.range' k7 gd HGK.out; rwa [Nat.zero_add] at e) Try.underlying22 rfl (by rw [List.length_map, HGD.out]; exact Try.sizeA32) ?_) | ((with_reducible show wpList _ _ _ (⟨some 14, _, _, _, _, _⟩ :: _) _ _); refine wpList_allocZ rfl 22 rfl _ Try.zeroA32 ?_; intro wq306 hsq307 baq308 hNq309) | ((with_reducible show wpList _ _ _ (⟨none, Op.store _ (.tmp 14) _, _, _, _, _⟩ :: _) _ _); refine wpList_storeBlk rfl 22 (.tmp 14) (.tmp 123) rfl (wq292.heap.size) ((gd.map bv).toArray) (by rfl) (by rfl) _ _ hNq309 (by rw [bv_size, HGD.out]; exact Try.sizeA32) (by rw [bv_size, HGD.out, Z32_size]) (bv_all _) ?_; intro wq310 hKq311 gq312; have bbq313 := below_new baq308 gq312 (Nat.le_refl _) baq308.size; have ltq314 : mb < wq292.heap.size := hCq298.lt; have ltq315 : jb < wq292.heap.size := hCq299.lt; have hCq316 := hCq298.below bbq313 hCq298.lt; have hCq317 := hCq299.below bbq313 hCq299.lt; have hCq318 := Lib.hid (hCq301.out.below bbq313); have hCq319 := Lib.hid (hCq302.out.below bbq313); have hBq320 := hBq304.trans (bbq313.mono (Nat.le_trans (Nat.le_of_eq HBS.out) hBq304.size)); clear hCq298 hCq299 hCq301 hCq302 hBq304; clear bbq313 baq308 hNq309 gq312 hsq307) | ((with_reducible show wpList _ _ _ (⟨some 125, _, _, _, _, _⟩ :: _) _ _); refine wpList_load_mid rfl 22 (.tmp 14) rfl (wq292.heap.size) 0 (by rfl) (gd.map bv) _ (blk_rangeP hKq311) Try.underlying22 rfl (by rw [List.length_map, HGD.out]; exact Try.sizeA32) ?_) | ((with_reducible show wpList _ _ _ (⟨some 126, _, _, _, _, _⟩ :: _) _ _); refine wpList_bsH rfl 49 23 (.tmp 125) rfl gd HGD.out (by rfl) Try.underlying49 Try.infoHash2 ?_; intro qq321 wq322 eqq323 szq324 bbq325 hNq326; have ltq327 : mb < wq310.heap.size := hCq316.lt; have ltq328 : jb < wq310.heap.size := hCq317.lt; have ltq329 : wq292.heap.size < wq310.heap.size := hKq311.lt; have hCq330 := hCq316.below bbq325 hCq316.lt; have hCq331 := hCq317.below bbq325 hCq317.lt; have hCq332 := Lib.hid (hCq318.out.below bbq325); have hCq333 := Lib.hid (hCq319.out.below bbq325); have hCq334 := hKq311.below bbq325 hKq311.lt; have hBq335 := hBq320.trans (bbq325.mono (Nat.le_trans (Nat.le_of_eq HBS.out) hBq320.size)); clear hCq316 hCq317 hCq318 hCq319 hKq311 hBq320; clear bbq325 eqq323 szq324))
              have ltq338 : mb < wq322.heap.size := hCq330.lt
              have ltq339 : jb < wq322.heap.size := hCq331.lt
              have ltq340 : wq292.heap.size < wq322.heap.size := hCq334.lt
              have ltq341 : qq321 < wq322.heap.size := hNq326.lt
              refine (Follows_gen _ _ [gd] FF _ (known_post _ [gd] b FF _ (HashesAt.one hNq326 HGD.out (by omega)) hCq332.out.1.rd HUN.out (Nat.le_trans HFFL.out.1 (by omega)) (Nat.le_trans HFFL.out.2.1 (by omega)))).mono ?_
              rintro e wq336 ⟨v5, R, rfl, hR, hRi, hRm, hRl, bq337⟩
              have hCq342 := hCq330.below bq337 hCq330.lt
              have hCq343 := hCq331.below bq337 hCq331.lt
              have hCq344 := Lib.hid (hCq332.out.below bq337)
              have hCq345 := Lib.hid (hCq333.out.below bq337)
              have hCq346 := hCq334.below bq337 hCq334.lt
              have hCq347 := hNq326.below bq337 hNq326.lt
              have hBq348 := hBq335.trans (bq337.mono (Nat.le_trans (Nat.le_of_eq HBS.out) hBq335.size))
              clear hCq330 hCq331 hCq332 hCq333 hCq334 hNq326 hBq335
              clear bq337
              have hHq349 := Lib.hid hR
              clear hR
              have HRI := Lib.hid hRi
              have HRM := Lib.hid hRm
              have HRL := Lib.hid hRl
              clear hRi hRm hRl
              go_wp2_with (first | ((with_reducible show wpList _ _ _ (⟨some 129, _, _, _, _, _⟩ :: _) _ _); refine wpList_load_mid rfl 22 (.tmp 14) rfl (wq292.heap.size) 0 (by rfl) (gd.map bv) _ (blk_rangeP hCq346) Try.underlying22 rfl (by rw [List.length_map, HGD.out]; exact Try.sizeA32) ?_) | ((with_reducible show wpList _ _ _ (⟨some 130, _, _, _, _, _⟩ :: _) _ _); refine wpList_bsH rfl 90 22 (.tmp 129) rfl gd HGD.out (by rfl) Try.underlying90 Try.infoH2 ?_; intro qq350 wq351 eqq352 szq353 bbq354 hNq355; have ltq356 : mb < wq336.heap.size := hCq342.lt; have ltq357 : jb < wq336.heap.size := hCq343.lt; have ltq358 : wq292.heap.size < wq336.heap.size := hCq346.lt; have ltq359 : qq321 < wq336.heap.size := hCq347.lt; have hCq360 := hCq342.below bbq354 hCq342.lt; have hCq361 := hCq343.below bbq354 hCq343.lt; have hCq362 := Lib.hid (hCq344.out.below bbq354); have hCq363 := Lib.hid (hCq345.out.below bbq354); have hCq364 := hCq346.below bbq354 hCq346.lt; have hCq365 := hCq347.below bbq354 hCq347.lt; have hCq366 := Lib.hid (hHq349.out.below bbq354); have hBq367 := hBq348.trans (bbq354.mono (Nat.le_trans (Nat.le_of_eq HBS.out) hBq348.size)); clear hCq342 hCq343 hCq344 hCq345 hCq346 hCq347 hHq349 hBq348; clear bbq354 eqq352 szq353))
              have ltq370 : mb < wq351.heap.size := hCq360.lt
              have ltq371 : jb < wq351.heap.size := hCq361.lt
              have ltq372 : wq292.heap.size < wq351.heap.size := hCq364.lt
              have ltq373 : qq321 < wq351.heap.size := hCq365.lt
              have ltq374 : qq350 < wq351.heap.size := hNq355.lt
              refine (RefFollows_calls _ _ FF [gd] _ hCq363.out.at (HashesAt.one hNq355 HGD.out (by omega)) HFFO.out HUN.out (Nat.le_trans HFFL.out.1 (by omega))).mono ?_
              rintro e wq368 ⟨v6, R2, rfl, hR2, hR2i, hR2m, bq369⟩
              have hCq375 := hCq360.below bq369 hCq360.lt
              have hCq376 := hCq361.below bq369 hCq361.lt
              have hCq377 := Lib.hid (hCq362.out.below bq369)
              have hCq378 := Lib.hid (hCq363.out.below bq369)
              have hCq379 := hCq364.below bq369 hCq364.lt
              have hCq380 := hCq365.below bq369 hCq365.lt
              have hCq381 := Lib.hid (hCq366.out.below bq369)
              have hCq382 := hNq355.below bq369 hNq355.lt
              have hBq383 := hBq367.trans (bq369.mono (Nat.le_trans (Nat.le_of_eq HBS.out) hBq367.size))
              clear hCq360 hCq361 hCq362 hCq363 hCq364 hCq365 hCq366 hNq355 hBq367
              clear bq369
              have hHq384 := Lib.hid hR2
              clear hR2
              obtain rfl : R = R2 := rises_ext HRI.out hR2i hCq381.out.1 hHq384.out.1 (fun x => (HRM.out x).trans (hR2m x).symm)
              clear hR2i hR2m
              obtain ⟨xa, xn, xc, rfl, hxn⟩ := hCq381.out.sliceM
              obtain ⟨ya, yn, yc, rfl, hyn⟩ := hHq384.out.at.sliceM
              obtain rfl : xn = yn := by rw [hxn, hyn]
              have HXN := Lib.hid hxn
              have hxl : xn ≤ 500000 := by rw [hxn]; exact HRL.out
              clear hxn hyn
              go_wp2_with fail
              refine (Len_calls _ _ _ _ _ _ _ _ hCq377.out.1).mono ?_
              rintro e ww ⟨rfl, hww⟩
              have hww2 := hww.symm
              clear hww
              subst hww2
              rw [← HN4.out]
              go_wp2_with fail
              have HBz := Lib.hid hBq383
              have HPX : Hid (∀ x, Below wq368.heap.size wq368 x → HashesAt x (.slice xa xn xc) R) := fun x bx => hCq381.out.below bx
              have HPY : Hid (∀ x, Below wq368.heap.size wq368 x → HashesAt x (.slice ya xn yc) R) := fun x bx => hHq384.out.at.below bx
              have HBW : Hid (∀ x, Below wq368.heap.size wq368 x → Below base w x) := fun x bx => HBz.out.trans (bx.mono (Nat.le_trans (Nat.le_of_eq HBS.out) HBz.out.size))
              clear hBq383 hCq375 hCq376 hCq377 hCq378 hCq379 hCq380 hCq381 hCq382 hHq384
              go_loopw [17] (fun i wx => ∃ (k : Nat), k ≤ xn ∧ i = .int .i64 (k : Nat) ∧ Hid (Below wq368.heap.size wq368 wx)) (fun i _ => xn - (intOf i).toNat)
              case atStart => exact ⟨0, by omega, rfl, Lib.hid (Below.refl _ _)⟩
              case round =>
                obtain ⟨k, hk, rfl, HBX⟩ := hrel
                by_cases hlt2 : k < xn
                · obtain ⟨s, hs⟩ : ∃ s, R[k]? = some s := ⟨R[k]'(by rw [← HXN.out]; exact hlt2), List.getElem?_eq_getElem _⟩
                  have HS : Hid (s.length = 32) := (HPX.out _ HBX.out).1 s (List.mem_of_getElem? hs)
                  obtain ⟨g, o, rfl, hr1⟩ := (HPX.out _ HBX.out).range k s hs
                  obtain ⟨g2, o2, rfl, hr2⟩ := (HPY.out _ HBX.out).range k s hs
                  have HR1 := Lib.hid hr1
                  have HR2 := Lib.hid hr2
                  have heq : ∀ x, (Op.equalIn 10000 23 (.agg (s.map bv).toArray) (.agg (s.map bv).toArray)).run Try.prog x = .ok true x := fun x => by rw [run_eq_hash x s s HS.out HS.out]; simp
                  clear hs hr1 hr2
                  go_wp2_with fail
                  refine wp_region_quiet_lit (by kernel_rfl) (by kernel_rfl) ?_
                  repeat (first | ((with_reducible show wpQuiet _ _ _ _ (⟨some 153, _, _, _, _, _⟩ :: _) _); refine wpQuiet_loadMid (by rfl) 23 (.tmp 152) rfl g (o + k * 32) (by rfl) (s.map bv) _ (fun w' hw' => range_drewN HR1.out _ hw') Try.underlying23 rfl (by rw [List.length_map, HS.out]; exact Try.sizeHash) ?_; simp only [Act.put, List.setIfInBounds_toArray, List.set_cons_succ, List.set_cons_zero]) | ((with_reducible show wpQuiet _ _ _ _ (⟨some 157, _, _, _, _, _⟩ :: _) _); refine wpQuiet_loadMid (by rfl) 22 (.tmp 156) rfl g2 (o2 + k * 32) (by rfl) (s.map bv) _ (fun w' hw' => range_drewN HR2.out _ hw') Try.underlying22 rfl (by rw [List.length_map, HS.out]; exact Try.sizeA32) ?_; simp only [Act.put, List.setIfInBounds_toArray, List.set_cons_succ, List.set_cons_zero]) | go_big_quiet_step (fail))
                  refine wpQuiet_nil ?_
                  intro _ hw'
                  obtain ⟨nq, hw''⟩ := hw'
                  subst hw''
                  clear heq
                  go_wp2_with fail
                  go_roundw
                  case rel => exact ⟨k + 1, by omega, by go_num, Lib.hid (below_drewN HBX.out _)⟩
                  case measure => simp [intOf]; omega
                · obtain rfl : xn = k := by omega
                  go_wp2_with fail
                  go_returns
                  exact ⟨rfl, HBW.out _ HBX.out⟩
            refine AllReadyH.cons rfl (fun K hK => ?_) AllReadyH.nil
            rw [if_pos (by rfl)]
            refine wp_bsH 90 22 (.tmp 104) rfl (sec Y 5) (sec_len HY.out (i := 5) (by omega)) (by rfl) Try.underlying90 Try.infoH2 ?_
            intro gq388 yq386 egq389 ezq390 bq385 hEq387
            have lgq391 : base ≤ gq388 := by rw [egq389]; exact Nat.le_trans (Nat.le_of_eq HBS.out) hSq236.2.2.size
            have lbq392 : mb < gq388 := by rw [egq389]; exact hSq236.1.lt
            have lbq393 : jb < gq388 := by rw [egq389]; exact hSq236.2.1.lt
            have hHq394 := Lib.hid (hHq233.out.below bq385)
            have hHq395 := Lib.hid (hHq234.out.below bq385)
            have hHq396 := Lib.hid (hHq235.out.below bq385)
            refine hK.out _ _ ⟨hSq236.1.below bq385 hSq236.1.lt, hSq236.2.1.below bq385 hSq236.2.1.lt, hSq236.2.2.trans (bq385.mono (Nat.le_trans (Nat.le_of_eq HBS.out) hSq236.2.2.size))⟩ (fun hSq397 => ?_)
            clear hK K hSq236 bq385 egq389 ezq390
            refine wpAnyH_ready (rs := [5]) (by kernel_rfl) (by simp) ?_
            refine AllReadyH.cons rfl (fun K hK => ?_) AllReadyH.nil
            rw [if_pos (by rfl)]
            refine wp_bsH 90 22 (.tmp 101) rfl y HYA.out (by rfl) Try.underlying90 Try.infoH2 ?_
            intro gq401 yq399 egq402 ezq403 bq398 hEq400
            have lgq404 : base ≤ gq401 := by rw [egq402]; exact Nat.le_trans (Nat.le_of_eq HBS.out) hSq397.2.2.size
            have lbq405 : mb < gq401 := by rw [egq402]; exact hSq397.1.lt
            have lbq406 : jb < gq401 := by rw [egq402]; exact hSq397.2.1.lt
            have hEq407 := hEq387.below bq398 hEq387.lt
            have hHq408 := Lib.hid (hHq394.out.below bq398)
            have hHq409 := Lib.hid (hHq395.out.below bq398)
            have hHq410 := Lib.hid (hHq396.out.below bq398)
            refine hK.out _ _ ⟨hSq397.1.below bq398 hSq397.1.lt, hSq397.2.1.below bq398 hSq397.2.1.lt, hSq397.2.2.trans (bq398.mono (Nat.le_trans (Nat.le_of_eq HBS.out) hSq397.2.2.size))⟩ (fun hSq411 => ?_)
            clear hK K hSq397 bq398 egq402 ezq403
            refine wpAnyH_ready (rs := [9]) (by kernel_rfl) (by simp) ?_
            refine AllReadyH.cons rfl (fun K hK => ?_) AllReadyH.nil
            go_simp
            go_wp2_with (go_at_call 85; refine (Made_calls _ _ 1 1 1 1 _).mono ?_; rintro e yq412 ⟨rfl, bq413⟩)
            have hEq414 := hEq407.below bq413 hEq407.lt
            have hEq415 := hEq400.below bq413 hEq400.lt
            have hHq416 := Lib.hid (hHq408.out.below bq413)
            have hHq417 := Lib.hid (hHq409.out.below bq413)
            have hHq418 := Lib.hid (hHq410.out.below bq413)
            refine hK.out _ _ ⟨hSq411.1.below bq413 hSq411.1.lt, hSq411.2.1.below bq413 hSq411.2.1.lt, hSq411.2.2.trans (bq413.mono (Nat.le_trans (Nat.le_of_eq HBS.out) hSq411.2.2.size))⟩ (fun hSq419 => ?_)
            clear hK K hSq411 bq413
            refine wpAnyH_ready (rs := [10]) (by kernel_rfl) (by simp) ?_
            refine AllReadyH.cons rfl (fun K hK => ?_) AllReadyH.nil
            go_simp
            have hlo : base ≤ (yq412).heap.size := Nat.le_trans (Nat.le_of_eq HBS.out) hSq419.2.2.size
            go_wp2_with (go_at_call 73; refine (RefNote_calls (A := fun _ => False) _ _ _ ⟨[(sec Y 5)], [y]⟩ FS base _ hHq416.out (HashOwn.one hEq414 (sec_len HY.out (i := 5) (by omega)) lgq391) (HashOwn.one hEq415 HYA.out lgq404) (FOk.of11 (sec_len HY.out (i := 5) (by omega)) HYA.out) HFOK.out (Nat.le_trans HFS6.out.1 (by omega)) hlo (fun q h => h.elim)).mono ?_; rintro e yq420 ⟨v4, rfl, hR4, hF4, hB4⟩)
            rw [← HFFV.out] at hR4
            obtain ⟨a4, n4, c4, rfl, hn4⟩ := hR4.sliceR
            have HN4 := Lib.hid hn4
            have HR4 := Lib.hid hR4
            have HBK4 := Lib.hid (hHq417.out.frm hF4 (by decide))
            have HALL4 := Lib.hid (hHq418.out.frm hF4 (by decide))
            refine hK.out _ _ ⟨hSq419.1.frm hF4 (by decide), hSq419.2.1.frm hF4 (by decide), hSq419.2.2.trans hB4⟩ (fun hSq421 => ?_)
            clear hK K hSq419 hR4 hF4 hB4 hn4 hlo hHq416 hHq417 hHq418
            refine wpAnyH_take (i := 11) (v := Value.tuple #[Value.slice a4 n4 c4, Value.int .i64 (noteE ⟨[(sec Y 5)], [y]⟩)]) rfl (by kernel_rfl) (by kernel_rfl) (by kernel_rfl) (fun _ _ _ h => h) (Or.inl ⟨by rfl, fun x hx => by go_simp⟩) hSq421 ?_
            simp only [Act.put, List.getElem_toArray, List.getElem_cons_zero, List.getElem_cons_succ, List.setIfInBounds_toArray, List.set_cons_zero, List.set_cons_succ]
            refine wpAnyH_take (i := 12) (v := Value.slice a4 n4 c4) rfl (by kernel_rfl) (by kernel_rfl) (by kernel_rfl) (fun _ _ _ h => h) (Or.inl ⟨by rfl, fun x hx => by go_simp⟩) hSq421 ?_
            simp only [Act.put, List.getElem_toArray, List.getElem_cons_zero, List.getElem_cons_succ, List.setIfInBounds_toArray, List.set_cons_zero, List.set_cons_succ]
            refine wpAnyH_take (i := 13) (v := Value.int .i64 (noteE ⟨[(sec Y 5)], [y]⟩)) rfl (by kernel_rfl) (by kernel_rfl) (by kernel_rfl) (fun _ _ _ h => h) (Or.inl ⟨by rfl, fun x hx => by go_simp⟩) hSq421 ?_
            simp only [Act.put, List.getElem_toArray, List.getElem_cons_zero, List.getElem_cons_succ, List.setIfInBounds_toArray, List.set_cons_zero, List.set_cons_succ]
            refine wpAnyH_ready (rs := [14]) (by kernel_rfl) (by simp) ?_
            refine AllReadyH.cons rfl (fun K hK => ?_) AllReadyH.nil
            go_simp
            refine hK.out _ _ hSq421 (fun hSq422 => ?_)
            clear hK K hSq421
            refine wpAnyH_done (by kernel_rfl) ?_ _
            have hM5 := hSq422.1
            have hJ5 := hSq422.2.1
            have hB5 := hSq422.2.2
            clear hSq422
            have HUW : Hid (0 ≤ u ∧ u ≤ 255) := by
              have e := hwu
              simp [Lit.wf, IntKind.min, IntKind.max, IntKind.bits, IntKind.signed] at e
              exact ⟨by omega, by omega⟩
            obtain ⟨k7, hk7, hk7l⟩ : ∃ k7 : Nat, u % 7 = (k7 : Int) ∧ k7 < 7 := by
              have e := HUW.out
              exact ⟨(u % 7).toNat, by omega, by omega⟩
            have hu0 : 0 ≤ u := HUW.out.1
            have hu1 : u ≤ 255 := HUW.out.2
            have htm : u.tmod 7 = (k7 : Int) := by rw [Int.tmod_eq_emod_of_nonneg hu0]; exact hk7
            obtain ⟨bl, hbl⟩ : ∃ bl, bl = [(sec Y 0), (sec Y 2), (sec Y 1)] := ⟨_, rfl⟩
            have HBL := Lib.hid hbl
            have HBL32 : Hid (∀ h ∈ bl, h.length = 32) := by
              show ∀ h ∈ bl, h.length = 32
              rw [hbl]
              intro h hh
              simp only [List.mem_cons, List.not_mem_nil, or_false] at hh
              rcases hh with rfl | rfl | rfl <;> exact sec_len HY.out (by omega)
            have HLA : Hid (4 = al.length) := by show _ = _; rw [HAL.out]; rfl
            have HLB : Hid (3 = bl.length) := by show _ = _; rw [hbl]; rfl
            obtain ⟨gd, hgd⟩ : ∃ gd, (al ++ bl)[k7]? = some gd := ⟨(al ++ bl)[k7]'(by rw [List.length_append, ← HLA.out, ← HLB.out]; omega), List.getElem?_eq_getElem _⟩
            have HGK := Lib.hid hgd
            have HGD : Hid (gd.length = 32) := by
              show _ = _
              rcases List.mem_append.1 (List.mem_of_getElem? hgd) with e | e
              · exact HAL32.out gd e
              · exact HBL32.out gd e
            clear hbl hgd
            have HUN : Hid ((univ FF [gd]).length ≤ 500000) := by
              show _ ≤ _
              unfold univ
              have e := HFFL.out.2.2
              rw [List.length_append, List.length_singleton]
              omega
            go_wp2_with (first | ((with_reducible show wpList _ _ _ (⟨some 112, _, _, _, _, _⟩ :: _) _ _); refine wpList_load_mid rfl 22 (.tmp 111) rfl (mb) 0 (by rfl) ((sec Y 0).map bv) _ (sec_range hM5 (i := 0) (by omega)) Try.underlying22 rfl (by rw [List.length_map, (sec_len HY.out (i := 0) (by omega))]; exact Try.sizeA32) ?_) | ((with_reducible show wpList _ _ _ (⟨some 114, _, _, _, _, _⟩ :: _) _ _); refine wpList_load_mid rfl 22 (.tmp 113) rfl (mb) 64 (by rfl) ((sec Y 2).map bv) _ (sec_range hM5 (i := 2) (by omega)) Try.underlying22 rfl (by rw [List.length_map, (sec_len HY.out (i := 2) (by omega))]; exact Try.sizeA32) ?_) | ((with_reducible show wpList _ _ _ (⟨some 116, _, _, _, _, _⟩ :: _) _ _); refine wpList_load_mid rfl 22 (.tmp 115) rfl (mb) 32 (by rfl) ((sec Y 1).map bv) _ (sec_range hM5 (i := 1) (by omega)) Try.underlying22 rfl (by rw [List.length_map, (sec_len HY.out (i := 1) (by omega))]; exact Try.sizeA32) ?_) | ((with_reducible show wpList _ _ _ (⟨some 117, _, _, _, _, _⟩ :: _) _ _); refine wpList_bsHs rfl 90 22 3 #[(0, .tmp 112), (1, .tmp 114), (2, .tmp 116)] rfl bl (by rw [HBL.out]; rfl) (by omega) (by omega) HBL32.out (by rw [HBL.out]; simp only [List.map_toArray, List.map_cons, List.map_nil, List.zipIdx_cons, List.zipIdx_nil]; rfl) Try.underlying90 Try.infoH2 ?_; intro qq423 wq424 eqq425 szq426 bbq427 hNq428; have ltq429 : mb < yq420.heap.size := hM5.lt; have ltq430 : jb < yq420.heap.size := hJ5.lt; have hCq431 := hM5.below bbq427 hM5.lt; have hCq432 := hJ5.below bbq427 hJ5.lt; have hCq433 := Lib.hid (HALL4.out.below bbq427); have hCq434 := Lib.hid (HBK4.out.below bbq427); have hCq435 := Lib.hid (HR4.out.below bbq427); have hBq436 := hB5.trans (bbq427.mono (Nat.le_trans (Nat.le_of_eq HBS.out) hB5.size)); clear hM5 hJ5 HALL4 HBK4 HR4 hB5; have HOBq437 := Lib.hid hNq428; clear bbq427 eqq425 szq426 hNq428) | ((with_reducible show wpList _ _ _ (⟨some 118, _, _, _, _, _⟩ :: _) _ _); refine wpList_append_full rfl (.tmp 110) (.tmp 117) 90 rfl 22 Try.underlying90 Try.infoH3 qq143 4 al (by rfl) hCq433.out.at qq423 3 3 bl (by rfl) HOBq437.out.at HLA.out HLB.out (by omega) 7 rfl (by rw [← HLA.out, ← HLB.out]; omega) ?_; intro gq438 cq439 wq440 hgq441 hatq442 bq443; have ltq444 : mb < wq424.heap.size := hCq431.lt; have ltq445 : jb < wq424.heap.size := hCq432.lt; have hCq446 := hCq431.below bq443 hCq431.lt; have hCq447 := hCq432.below bq443 hCq432.lt; have hCq448 := Lib.hid (hCq433.out.below bq443); have hCq449 := Lib.hid (hCq434.out.below bq443); have hCq450 := Lib.hid (hCq435.out.below bq443); have hCq451 := Lib.hid (HOBq437.out.below bq443); have hBq452 := hBq436.trans (bq443.mono (Nat.le_trans (Nat.le_of_eq HBS.out) hBq436.size)); clear hCq431 hCq432 hCq433 hCq434 hCq435 HOBq437 hBq436; have HATq453 := Lib.hid hatq442; clear bq443 hgq441 hatq442) | ((with_reducible show wpList _ _ _ (⟨some 123, _, _, _, _, _⟩ :: _) _ _); refine wpList_load_mid rfl 22 (.tmp 122) rfl gq438 (k7 * 32) (by rfl) (gd.map bv) _ (by have e := HATq453.out.range' k7 gd HGK.out; rwa [Nat.zero_add] at e) Try.underlying22 rfl (by rw [List.length_map, HGD.out]; exact Try.sizeA32) ?_) | ((with_reducible show wpList _ _ _ (⟨some 14, _, _, _, _, _⟩ :: _) _ _); refine wpList_allocZ rfl 22 rfl _ Try.zeroA32 ?_; intro wq454 hsq455 baq456 hNq457) | ((with_reducible show wpList _ _ _ (⟨none, Op.store _ (.tmp 14) _, _, _, _, _⟩ :: _) _ _); refine wpList_storeBlk rfl 22 (.tmp 14) (.tmp 123) rfl (wq440.heap.size) ((gd.map bv).toArray) (by rfl) (by rfl) _ _ hNq457 (by rw [bv_size, HGD.out]; exact Try.sizeA32) (by rw [bv_size, HGD.out, Z32_size]) (bv_all _) ?_; intro wq458 hKq459 gq460; have bbq461 := below_new baq456 gq460 (Nat.le_refl _) baq456.size; have ltq462 : mb < wq440.heap.size := hCq446.lt; have ltq463 : jb < wq440.heap.size := hCq447.lt; have hCq464 := hCq446.below bbq461 hCq446.lt; have hCq465 := hCq447.below bbq461 hCq447.lt; have hCq466 := Lib.hid (hCq449.out.below bbq461); have hCq467 := Lib.hid (hCq450.out.below bbq461); have hBq468 := hBq452.trans (bbq461.mono (Nat.le_trans (Nat.le_of_eq HBS.out) hBq452.size)); clear hCq446 hCq447 hCq449 hCq450 hBq452; clear bbq461 baq456 hNq457 gq460 hsq455) | ((with_reducible show wpList _ _ _ (⟨some 125, _, _, _, _, _⟩ :: _) _ _); refine wpList_load_mid rfl 22 (.tmp 14) rfl (wq440.heap.size) 0 (by rfl) (gd.map bv) _ (blk_rangeP hKq459) Try.underlying22 rfl (by rw [List.length_map, HGD.out]; exact Try.sizeA32) ?_) | ((with_reducible show wpList _ _ _ (⟨some 126, _, _, _, _, _⟩ :: _) _ _); refine wpList_bsH rfl 49 23 (.tmp 125) rfl gd HGD.out (by rfl) Try.underlying49 Try.infoHash2 ?_; intro qq469 wq470 eqq471 szq472 bbq473 hNq474; have ltq475 : mb < wq458.heap.size := hCq464.lt; have ltq476 : jb < wq458.heap.size := hCq465.lt; have ltq477 : wq440.heap.size < wq458.heap.size := hKq459.lt; have hCq478 := hCq464.below bbq473 hCq464.lt; have hCq479 := hCq465.below bbq473 hCq465.lt; have hCq480 := Lib.hid (hCq466.out.below bbq473); have hCq481 := Lib.hid (hCq467.out.below bbq473); have hCq482 := hKq459.below bbq473 hKq459.lt; have hBq483 := hBq468.trans (bbq473.mono (Nat.le_trans (Nat.le_of_eq HBS.out) hBq468.size)); clear hCq464 hCq465 hCq466 hCq467 hKq459 hBq468; clear bbq473 eqq471 szq472))
            have ltq486 : mb < wq470.heap.size := hCq478.lt
            have ltq487 : jb < wq470.heap.size := hCq479.lt
            have ltq488 : wq440.heap.size < wq470.heap.size := hCq482.lt
            have ltq489 : qq469 < wq470.heap.size := hNq474.lt
            refine (Follows_gen _ _ [gd] FF _ (known_post _ [gd] b FF _ (HashesAt.one hNq474 HGD.out (by omega)) hCq480.out.1.rd HUN.out (Nat.le_trans HFFL.out.1 (by omega)) (Nat.le_trans HFFL.out.2.1 (by omega)))).mono ?_
            rintro e wq484 ⟨v5, R, rfl, hR, hRi, hRm, hRl, bq485⟩
            have hCq490 := hCq478.below bq485 hCq478.lt
            have hCq491 := hCq479.below bq485 hCq479.lt
            have hCq492 := Lib.hid (hCq480.out.below bq485)
            have hCq493 := Lib.hid (hCq481.out.below bq485)
            have hCq494 := hCq482.below bq485 hCq482.lt
            have hCq495 := hNq474.below bq485 hNq474.lt
            have hBq496 := hBq483.trans (bq485.mono (Nat.le_trans (Nat.le_of_eq HBS.out) hBq483.size))
            clear hCq478 hCq479 hCq480 hCq481 hCq482 hNq474 hBq483
            clear bq485
            have hHq497 := Lib.hid hR
            clear hR
            have HRI := Lib.hid hRi
            have HRM := Lib.hid hRm
            have HRL := Lib.hid hRl
            clear hRi hRm hRl
            go_wp2_with (first | ((with_reducible show wpList _ _ _ (⟨some 129, _, _, _, _, _⟩ :: _) _ _); refine wpList_load_mid rfl 22 (.tmp 14) rfl (wq440.heap.size) 0 (by rfl) (gd.map bv) _ (blk_rangeP hCq494) Try.underlying22 rfl (by rw [List.length_map, HGD.out]; exact Try.sizeA32) ?_) | ((with_reducible show wpList _ _ _ (⟨some 130, _, _, _, _, _⟩ :: _) _ _); refine wpList_bsH rfl 90 22 (.tmp 129) rfl gd HGD.out (by rfl) Try.underlying90 Try.infoH2 ?_; intro qq498 wq499 eqq500 szq501 bbq502 hNq503; have ltq504 : mb < wq484.heap.size := hCq490.lt; have ltq505 : jb < wq484.heap.size := hCq491.lt; have ltq506 : wq440.heap.size < wq484.heap.size := hCq494.lt; have ltq507 : qq469 < wq484.heap.size := hCq495.lt; have hCq508 := hCq490.below bbq502 hCq490.lt; have hCq509 := hCq491.below bbq502 hCq491.lt; have hCq510 := Lib.hid (hCq492.out.below bbq502); have hCq511 := Lib.hid (hCq493.out.below bbq502); have hCq512 := hCq494.below bbq502 hCq494.lt; have hCq513 := hCq495.below bbq502 hCq495.lt; have hCq514 := Lib.hid (hHq497.out.below bbq502); have hBq515 := hBq496.trans (bbq502.mono (Nat.le_trans (Nat.le_of_eq HBS.out) hBq496.size)); clear hCq490 hCq491 hCq492 hCq493 hCq494 hCq495 hHq497 hBq496; clear bbq502 eqq500 szq501))
            have ltq518 : mb < wq499.heap.size := hCq508.lt
            have ltq519 : jb < wq499.heap.size := hCq509.lt
            have ltq520 : wq440.heap.size < wq499.heap.size := hCq512.lt
            have ltq521 : qq469 < wq499.heap.size := hCq513.lt
            have ltq522 : qq498 < wq499.heap.size := hNq503.lt
            refine (RefFollows_calls _ _ FF [gd] _ hCq511.out.at (HashesAt.one hNq503 HGD.out (by omega)) HFFO.out HUN.out (Nat.le_trans HFFL.out.1 (by omega))).mono ?_
            rintro e wq516 ⟨v6, R2, rfl, hR2, hR2i, hR2m, bq517⟩
            have hCq523 := hCq508.below bq517 hCq508.lt
            have hCq524 := hCq509.below bq517 hCq509.lt
            have hCq525 := Lib.hid (hCq510.out.below bq517)
            have hCq526 := Lib.hid (hCq511.out.below bq517)
            have hCq527 := hCq512.below bq517 hCq512.lt
            have hCq528 := hCq513.below bq517 hCq513.lt
            have hCq529 := Lib.hid (hCq514.out.below bq517)
            have hCq530 := hNq503.below bq517 hNq503.lt
            have hBq531 := hBq515.trans (bq517.mono (Nat.le_trans (Nat.le_of_eq HBS.out) hBq515.size))
            clear hCq508 hCq509 hCq510 hCq511 hCq512 hCq513 hCq514 hNq503 hBq515
            clear bq517
            have hHq532 := Lib.hid hR2
            clear hR2
            obtain rfl : R = R2 := rises_ext HRI.out hR2i hCq529.out.1 hHq532.out.1 (fun x => (HRM.out x).trans (hR2m x).symm)
            clear hR2i hR2m
            obtain ⟨xa, xn, xc, rfl, hxn⟩ := hCq529.out.sliceM
            obtain ⟨ya, yn, yc, rfl, hyn⟩ := hHq532.out.at.sliceM
            obtain rfl : xn = yn := by rw [hxn, hyn]
            have HXN := Lib.hid hxn
            have hxl : xn ≤ 500000 := by rw [hxn]; exact HRL.out
            clear hxn hyn
            go_wp2_with fail
            refine (Len_calls _ _ _ _ _ _ _ _ hCq525.out.1).mono ?_
            rintro e ww ⟨rfl, hww⟩
            have hww2 := hww.symm
            clear hww
            subst hww2
            rw [← HN4.out]
            go_wp2_with fail
            have HBz := Lib.hid hBq531
            have HPX : Hid (∀ x, Below wq516.heap.size wq516 x → HashesAt x (.slice xa xn xc) R) := fun x bx => hCq529.out.below bx
            have HPY : Hid (∀ x, Below wq516.heap.size wq516 x → HashesAt x (.slice ya xn yc) R) := fun x bx => hHq532.out.at.below bx
            have HBW : Hid (∀ x, Below wq516.heap.size wq516 x → Below base w x) := fun x bx => HBz.out.trans (bx.mono (Nat.le_trans (Nat.le_of_eq HBS.out) HBz.out.size))
            clear hBq531 hCq523 hCq524 hCq525 hCq526 hCq527 hCq528 hCq529 hCq530 hHq532
            go_loopw [17] (fun i wx => ∃ (k : Nat), k ≤ xn ∧ i = .int .i64 (k : Nat) ∧ Hid (Below wq516.heap.size wq516 wx)) (fun i _ => xn - (intOf i).toNat)
            case atStart => exact ⟨0, by omega, rfl, Lib.hid (Below.refl _ _)⟩
            case round =>
              obtain ⟨k, hk, rfl, HBX⟩ := hrel
              by_cases hlt2 : k < xn
              · obtain ⟨s, hs⟩ : ∃ s, R[k]? = some s := ⟨R[k]'(by rw [← HXN.out]; exact hlt2), List.getElem?_eq_getElem _⟩
                have HS : Hid (s.length = 32) := (HPX.out _ HBX.out).1 s (List.mem_of_getElem? hs)
                obtain ⟨g, o, rfl, hr1⟩ := (HPX.out _ HBX.out).range k s hs
                obtain ⟨g2, o2, rfl, hr2⟩ := (HPY.out _ HBX.out).range k s hs
                have HR1 := Lib.hid hr1
                have HR2 := Lib.hid hr2
                have heq : ∀ x, (Op.equalIn 10000 23 (.agg (s.map bv).toArray) (.agg (s.map bv).toArray)).run Try.prog x = .ok true x := fun x => by rw [run_eq_hash x s s HS.out HS.out]; simp
                clear hs hr1 hr2
                go_wp2_with fail
                refine wp_region_quiet_lit (by kernel_rfl) (by kernel_rfl) ?_
                repeat (first | ((with_reducible show wpQuiet _ _ _ _ (⟨some 153, _, _, _, _, _⟩ :: _) _); refine wpQuiet_loadMid (by rfl) 23 (.tmp 152) rfl g (o + k * 32) (by rfl) (s.map bv) _ (fun w' hw' => range_drewN HR1.out _ hw') Try.underlying23 rfl (by rw [List.length_map, HS.out]; exact Try.sizeHash) ?_; simp only [Act.put, List.setIfInBounds_toArray, List.set_cons_succ, List.set_cons_zero]) | ((with_reducible show wpQuiet _ _ _ _ (⟨some 157, _, _, _, _, _⟩ :: _) _); refine wpQuiet_loadMid (by rfl) 22 (.tmp 156) rfl g2 (o2 + k * 32) (by rfl) (s.map bv) _ (fun w' hw' => range_drewN HR2.out _ hw') Try.underlying22 rfl (by rw [List.length_map, HS.out]; exact Try.sizeA32) ?_; simp only [Act.put, List.setIfInBounds_toArray, List.set_cons_succ, List.set_cons_zero]) | go_big_quiet_step (fail))
                refine wpQuiet_nil ?_
                intro _ hw'
                obtain ⟨nq, hw''⟩ := hw'
                subst hw''
                clear heq
                go_wp2_with fail
                go_roundw
                case rel => exact ⟨k + 1, by omega, by go_num, Lib.hid (below_drewN HBX.out _)⟩
                case measure => simp [intOf]; omega
              · obtain rfl : xn = k := by omega
                go_wp2_with fail
                go_returns
                exact ⟨rfl, HBW.out _ HBX.out⟩
          refine AllReadyH.cons rfl (fun K hK => ?_) AllReadyH.nil
          rw [if_pos (by rfl)]
          refine wp_bsH 90 22 (.tmp 104) rfl (sec Y 5) (sec_len HY.out (i := 5) (by omega)) (by rfl) Try.underlying90 Try.infoH2 ?_
          intro gq536 yq534 egq537 ezq538 bq533 hEq535
          have lgq539 : base ≤ gq536 := by rw [egq537]; exact Nat.le_trans (Nat.le_of_eq HBS.out) hSq227.2.2.size
          have lbq540 : mb < gq536 := by rw [egq537]; exact hSq227.1.lt
          have lbq541 : jb < gq536 := by rw [egq537]; exact hSq227.2.1.lt
          have hHq542 := Lib.hid (hHq228.out.below bq533)
          have hHq543 := Lib.hid (hHq229.out.below bq533)
          have hHq544 := Lib.hid (hHq230.out.below bq533)
          refine hK.out _ _ ⟨hSq227.1.below bq533 hSq227.1.lt, hSq227.2.1.below bq533 hSq227.2.1.lt, hSq227.2.2.trans (bq533.mono (Nat.le_trans (Nat.le_of_eq HBS.out) hSq227.2.2.size))⟩ (fun hSq545 => ?_)
          clear hK K hSq227 bq533 egq537 ezq538
          refine wpAnyH_ready (rs := [4]) (by kernel_rfl) (by simp) ?_
          refine AllReadyH.cons rfl (fun K hK => ?_) AllReadyH.nil
          go_simp
          go_wp2_with (go_at_call 33; refine (RefApp_calls (sec Y 5) p _ (sec_len HY.out (i := 5) (by omega)) hp.1 (by omega)).mono ?_; rintro e yq546 ⟨rfl, bq547⟩; rw [← HYE.out])
          have hEq548 := hEq535.below bq547 hEq535.lt
          have hHq549 := Lib.hid (hHq542.out.below bq547)
          have hHq550 := Lib.hid (hHq543.out.below bq547)
          have hHq551 := Lib.hid (hHq544.out.below bq547)
          refine hK.out _ _ ⟨hSq545.1.below bq547 hSq545.1.lt, hSq545.2.1.below bq547 hSq545.2.1.lt, hSq545.2.2.trans (bq547.mono (Nat.le_trans (Nat.le_of_eq HBS.out) hSq545.2.2.size))⟩ (fun hSq552 => ?_)
          clear hK K hSq545 bq547
          refine wpAnyH_ready (rs := [5]) (by kernel_rfl) (by simp) ?_
          refine AllReadyH.cons rfl (fun K hK => ?_) AllReadyH.nil
          rw [if_pos (by rfl)]
          refine wp_bsH 90 22 (.tmp 101) rfl y HYA.out (by rfl) Try.underlying90 Try.infoH2 ?_
          intro gq556 yq554 egq557 ezq558 bq553 hEq555
          have lgq559 : base ≤ gq556 := by rw [egq557]; exact Nat.le_trans (Nat.le_of_eq HBS.out) hSq552.2.2.size
          have lbq560 : mb < gq556 := by rw [egq557]; exact hSq552.1.lt
          have lbq561 : jb < gq556 := by rw [egq557]; exact hSq552.2.1.lt
          have hEq562 := hEq548.below bq553 hEq548.lt
          have hHq563 := Lib.hid (hHq549.out.below bq553)
          have hHq564 := Lib.hid (hHq550.out.below bq553)
          have hHq565 := Lib.hid (hHq551.out.below bq553)
          refine hK.out _ _ ⟨hSq552.1.below bq553 hSq552.1.lt, hSq552.2.1.below bq553 hSq552.2.1.lt, hSq552.2.2.trans (bq553.mono (Nat.le_trans (Nat.le_of_eq HBS.out) hSq552.2.2.size))⟩ (fun hSq566 => ?_)
          clear hK K hSq552 bq553 egq557 ezq558
          refine wpAnyH_ready (rs := [9]) (by kernel_rfl) (by simp) ?_
          refine AllReadyH.cons rfl (fun K hK => ?_) AllReadyH.nil
          go_simp
          go_wp2_with (go_at_call 85; refine (Made_calls _ _ 1 1 1 1 _).mono ?_; rintro e yq567 ⟨rfl, bq568⟩)
          have hEq569 := hEq562.below bq568 hEq562.lt
          have hEq570 := hEq555.below bq568 hEq555.lt
          have hHq571 := Lib.hid (hHq563.out.below bq568)
          have hHq572 := Lib.hid (hHq564.out.below bq568)
          have hHq573 := Lib.hid (hHq565.out.below bq568)
          refine hK.out _ _ ⟨hSq566.1.below bq568 hSq566.1.lt, hSq566.2.1.below bq568 hSq566.2.1.lt, hSq566.2.2.trans (bq568.mono (Nat.le_trans (Nat.le_of_eq HBS.out) hSq566.2.2.size))⟩ (fun hSq574 => ?_)
          clear hK K hSq566 bq568
          refine wpAnyH_ready (rs := [10]) (by kernel_rfl) (by simp) ?_
          refine AllReadyH.cons rfl (fun K hK => ?_) AllReadyH.nil
          go_simp
          have hlo : base ≤ (yq567).heap.size := Nat.le_trans (Nat.le_of_eq HBS.out) hSq574.2.2.size
          go_wp2_with (go_at_call 73; refine (RefNote_calls (A := fun _ => False) _ _ _ ⟨[(sec Y 5)], [y]⟩ FS base _ hHq571.out (HashOwn.one hEq569 (sec_len HY.out (i := 5) (by omega)) lgq539) (HashOwn.one hEq570 HYA.out lgq559) (FOk.of11 (sec_len HY.out (i := 5) (by omega)) HYA.out) HFOK.out (Nat.le_trans HFS6.out.1 (by omega)) hlo (fun q h => h.elim)).mono ?_; rintro e yq575 ⟨v4, rfl, hR4, hF4, hB4⟩)
          rw [← HFFV.out] at hR4
          obtain ⟨a4, n4, c4, rfl, hn4⟩ := hR4.sliceR
          have HN4 := Lib.hid hn4
          have HR4 := Lib.hid hR4
          have HBK4 := Lib.hid (hHq572.out.frm hF4 (by decide))
          have HALL4 := Lib.hid (hHq573.out.frm hF4 (by decide))
          refine hK.out _ _ ⟨hSq574.1.frm hF4 (by decide), hSq574.2.1.frm hF4 (by decide), hSq574.2.2.trans hB4⟩ (fun hSq576 => ?_)
          clear hK K hSq574 hR4 hF4 hB4 hn4 hlo hHq571 hHq572 hHq573
          refine wpAnyH_take (i := 11) (v := Value.tuple #[Value.slice a4 n4 c4, Value.int .i64 (noteE ⟨[(sec Y 5)], [y]⟩)]) rfl (by kernel_rfl) (by kernel_rfl) (by kernel_rfl) (fun _ _ _ h => h) (Or.inl ⟨by rfl, fun x hx => by go_simp⟩) hSq576 ?_
          simp only [Act.put, List.getElem_toArray, List.getElem_cons_zero, List.getElem_cons_succ, List.setIfInBounds_toArray, List.set_cons_zero, List.set_cons_succ]
          refine wpAnyH_take (i := 12) (v := Value.slice a4 n4 c4) rfl (by kernel_rfl) (by kernel_rfl) (by kernel_rfl) (fun _ _ _ h => h) (Or.inl ⟨by rfl, fun x hx => by go_simp⟩) hSq576 ?_
          simp only [Act.put, List.getElem_toArray, List.getElem_cons_zero, List.getElem_cons_succ, List.setIfInBounds_toArray, List.set_cons_zero, List.set_cons_succ]
          refine wpAnyH_take (i := 13) (v := Value.int .i64 (noteE ⟨[(sec Y 5)], [y]⟩)) rfl (by kernel_rfl) (by kernel_rfl) (by kernel_rfl) (fun _ _ _ h => h) (Or.inl ⟨by rfl, fun x hx => by go_simp⟩) hSq576 ?_
          simp only [Act.put, List.getElem_toArray, List.getElem_cons_zero, List.getElem_cons_succ, List.setIfInBounds_toArray, List.set_cons_zero, List.set_cons_succ]
          refine wpAnyH_ready (rs := [14]) (by kernel_rfl) (by simp) ?_
          refine AllReadyH.cons rfl (fun K hK => ?_) AllReadyH.nil
          go_simp
          refine hK.out _ _ hSq576 (fun hSq577 => ?_)
          clear hK K hSq576
          refine wpAnyH_done (by kernel_rfl) ?_ _
          have hM5 := hSq577.1
          have hJ5 := hSq577.2.1
          have hB5 := hSq577.2.2
          clear hSq577
          have HUW : Hid (0 ≤ u ∧ u ≤ 255) := by
            have e := hwu
            simp [Lit.wf, IntKind.min, IntKind.max, IntKind.bits, IntKind.signed] at e
            exact ⟨by omega, by omega⟩
          obtain ⟨k7, hk7, hk7l⟩ : ∃ k7 : Nat, u % 7 = (k7 : Int) ∧ k7 < 7 := by
            have e := HUW.out
            exact ⟨(u % 7).toNat, by omega, by omega⟩
          have hu0 : 0 ≤ u := HUW.out.1
          have hu1 : u ≤ 255 := HUW.out.2
          have htm : u.tmod 7 = (k7 : Int) := by rw [Int.tmod_eq_emod_of_nonneg hu0]; exact hk7
          obtain ⟨bl, hbl⟩ : ∃ bl, bl = [(sec Y 0), (sec Y 2), (sec Y 1)] := ⟨_, rfl⟩
          have HBL := Lib.hid hbl
          have HBL32 : Hid (∀ h ∈ bl, h.length = 32) := by
            show ∀ h ∈ bl, h.length = 32
            rw [hbl]
            intro h hh
            simp only [List.mem_cons, List.not_mem_nil, or_false] at hh
            rcases hh with rfl | rfl | rfl <;> exact sec_len HY.out (by omega)
          have HLA : Hid (4 = al.length) := by show _ = _; rw [HAL.out]; rfl
          have HLB : Hid (3 = bl.length) := by show _ = _; rw [hbl]; rfl
          obtain ⟨gd, hgd⟩ : ∃ gd, (al ++ bl)[k7]? = some gd := ⟨(al ++ bl)[k7]'(by rw [List.length_append, ← HLA.out, ← HLB.out]; omega), List.getElem?_eq_getElem _⟩
          have HGK := Lib.hid hgd
          have HGD : Hid (gd.length = 32) := by
            show _ = _
            rcases List.mem_append.1 (List.mem_of_getElem? hgd) with e | e
            · exact HAL32.out gd e
            · exact HBL32.out gd e
          clear hbl hgd
          have HUN : Hid ((univ FF [gd]).length ≤ 500000) := by
            show _ ≤ _
            unfold univ
            have e := HFFL.out.2.2
            rw [List.length_append, List.length_singleton]
            omega
          go_wp2_with (first | ((with_reducible show wpList _ _ _ (⟨some 112, _, _, _, _, _⟩ :: _) _ _); refine wpList_load_mid rfl 22 (.tmp 111) rfl (mb) 0 (by rfl) ((sec Y 0).map bv) _ (sec_range hM5 (i := 0) (by omega)) Try.underlying22 rfl (by rw [List.length_map, (sec_len HY.out (i := 0) (by omega))]; exact Try.sizeA32) ?_) | ((with_reducible show wpList _ _ _ (⟨some 114, _, _, _, _, _⟩ :: _) _ _); refine wpList_load_mid rfl 22 (.tmp 113) rfl (mb) 64 (by rfl) ((sec Y 2).map bv) _ (sec_range hM5 (i := 2) (by omega)) Try.underlying22 rfl (by rw [List.length_map, (sec_len HY.out (i := 2) (by omega))]; exact Try.sizeA32) ?_) | ((with_reducible show wpList _ _ _ (⟨some 116, _, _, _, _, _⟩ :: _) _ _); refine wpList_load_mid rfl 22 (.tmp 115) rfl (mb) 32 (by rfl) ((sec Y 1).map bv) _ (sec_range hM5 (i := 1) (by omega)) Try.underlying22 rfl (by rw [List.length_map, (sec_len HY.out (i := 1) (by omega))]; exact Try.sizeA32) ?_) | ((with_reducible show wpList _ _ _ (⟨some 117, _, _, _, _, _⟩ :: _) _ _); refine wpList_bsHs rfl 90 22 3 #[(0, .tmp 112), (1, .tmp 114), (2, .tmp 116)] rfl bl (by rw [HBL.out]; rfl) (by omega) (by omega) HBL32.out (by rw [HBL.out]; simp only [List.map_toArray, List.map_cons, List.map_nil, List.zipIdx_cons, List.zipIdx_nil]; rfl) Try.underlying90 Try.infoH2 ?_; intro qq578 wq579 eqq580 szq581 bbq582 hNq583; have ltq584 : mb < yq575.heap.size := hM5.lt; have ltq585 : jb < yq575.heap.size := hJ5.lt; have hCq586 := hM5.below bbq582 hM5.lt; have hCq587 := hJ5.below bbq582 hJ5.lt; have hCq588 := Lib.hid (HALL4.out.below bbq582); have hCq589 := Lib.hid (HBK4.out.below bbq582); have hCq590 := Lib.hid (HR4.out.below bbq582); have hBq591 := hB5.trans (bbq582.mono (Nat.le_trans (Nat.le_of_eq HBS.out) hB5.size)); clear hM5 hJ5 HALL4 HBK4 HR4 hB5; have HOBq592 := Lib.hid hNq583; clear bbq582 eqq580 szq581 hNq583) | ((with_reducible show wpList _ _ _ (⟨some 118, _, _, _, _, _⟩ :: _) _ _); refine wpList_append_full rfl (.tmp 110) (.tmp 117) 90 rfl 22 Try.underlying90 Try.infoH3 qq143 4 al (by rfl) hCq588.out.at qq578 3 3 bl (by rfl) HOBq592.out.at HLA.out HLB.out (by omega) 7 rfl (by rw [← HLA.out, ← HLB.out]; omega) ?_; intro gq593 cq594 wq595 hgq596 hatq597 bq598; have ltq599 : mb < wq579.heap.size := hCq586.lt; have ltq600 : jb < wq579.heap.size := hCq587.lt; have hCq601 := hCq586.below bq598 hCq586.lt; have hCq602 := hCq587.below bq598 hCq587.lt; have hCq603 := Lib.hid (hCq588.out.below bq598); have hCq604 := Lib.hid (hCq589.out.below bq598); have hCq605 := Lib.hid (hCq590.out.below bq598); have hCq606 := Lib.hid (HOBq592.out.below bq598); have hBq607 := hBq591.trans (bq598.mono (Nat.le_trans (Nat.le_of_eq HBS.out) hBq591.size)); clear hCq586 hCq587 hCq588 hCq589 hCq590 HOBq592 hBq591; have HATq608 := Lib.hid hatq597; clear bq598 hgq596 hatq597) | ((with_reducible show wpList _ _ _ (⟨some 123, _, _, _, _, _⟩ :: _) _ _); refine wpList_load_mid rfl 22 (.tmp 122) rfl gq593 (k7 * 32) (by rfl) (gd.map bv) _ (by have e := HATq608.out.range' k7 gd HGK.out; rwa [Nat.zero_add] at e) Try.underlying22 rfl (by rw [List.length_map, HGD.out]; exact Try.sizeA32) ?_) | ((with_reducible show wpList _ _ _ (⟨some 14, _, _, _, _, _⟩ :: _) _ _); refine wpList_allocZ rfl 22 rfl _ Try.zeroA32 ?_; intro wq609 hsq610 baq611 hNq612) | ((with_reducible show wpList _ _ _ (⟨none, Op.store _ (.tmp 14) _, _, _, _, _⟩ :: _) _ _); refine wpList_storeBlk rfl 22 (.tmp 14) (.tmp 123) rfl (wq595.heap.size) ((gd.map bv).toArray) (by rfl) (by rfl) _ _ hNq612 (by rw [bv_size, HGD.out]; exact Try.sizeA32) (by rw [bv_size, HGD.out, Z32_size]) (bv_all _) ?_; intro wq613 hKq614 gq615; have bbq616 := below_new baq611 gq615 (Nat.le_refl _) baq611.size; have ltq617 : mb < wq595.heap.size := hCq601.lt; have ltq618 : jb < wq595.heap.size := hCq602.lt; have hCq619 := hCq601.below bbq616 hCq601.lt; have hCq620 := hCq602.below bbq616 hCq602.lt; have hCq621 := Lib.hid (hCq604.out.below bbq616); have hCq622 := Lib.hid (hCq605.out.below bbq616); have hBq623 := hBq607.trans (bbq616.mono (Nat.le_trans (Nat.le_of_eq HBS.out) hBq607.size)); clear hCq601 hCq602 hCq604 hCq605 hBq607; clear bbq616 baq611 hNq612 gq615 hsq610) | ((with_reducible show wpList _ _ _ (⟨some 125, _, _, _, _, _⟩ :: _) _ _); refine wpList_load_mid rfl 22 (.tmp 14) rfl (wq595.heap.size) 0 (by rfl) (gd.map bv) _ (blk_rangeP hKq614) Try.underlying22 rfl (by rw [List.length_map, HGD.out]; exact Try.sizeA32) ?_) | ((with_reducible show wpList _ _ _ (⟨some 126, _, _, _, _, _⟩ :: _) _ _); refine wpList_bsH rfl 49 23 (.tmp 125) rfl gd HGD.out (by rfl) Try.underlying49 Try.infoHash2 ?_; intro qq624 wq625 eqq626 szq627 bbq628 hNq629; have ltq630 : mb < wq613.heap.size := hCq619.lt; have ltq631 : jb < wq613.heap.size := hCq620.lt; have ltq632 : wq595.heap.size < wq613.heap.size := hKq614.lt; have hCq633 := hCq619.below bbq628 hCq619.lt; have hCq634 := hCq620.below bbq628 hCq620.lt; have hCq635 := Lib.hid (hCq621.out.below bbq628); have hCq636 := Lib.hid (hCq622.out.below bbq628); have hCq637 := hKq614.below bbq628 hKq614.lt; have hBq638 := hBq623.trans (bbq628.mono (Nat.le_trans (Nat.le_of_eq HBS.out) hBq623.size)); clear hCq619 hCq620 hCq621 hCq622 hKq614 hBq623; clear bbq628 eqq626 szq627))
          have ltq641 : mb < wq625.heap.size := hCq633.lt
          have ltq642 : jb < wq625.heap.size := hCq634.lt
          have ltq643 : wq595.heap.size < wq625.heap.size := hCq637.lt
          have ltq644 : qq624 < wq625.heap.size := hNq629.lt
          refine (Follows_gen _ _ [gd] FF _ (known_post _ [gd] b FF _ (HashesAt.one hNq629 HGD.out (by omega)) hCq635.out.1.rd HUN.out (Nat.le_trans HFFL.out.1 (by omega)) (Nat.le_trans HFFL.out.2.1 (by omega)))).mono ?_
          rintro e wq639 ⟨v5, R, rfl, hR, hRi, hRm, hRl, bq640⟩
          have hCq645 := hCq633.below bq640 hCq633.lt
          have hCq646 := hCq634.below bq640 hCq634.lt
          have hCq647 := Lib.hid (hCq635.out.below bq640)
          have hCq648 := Lib.hid (hCq636.out.below bq640)
          have hCq649 := hCq637.below bq640 hCq637.lt
          have hCq650 := hNq629.below bq640 hNq629.lt
          have hBq651 := hBq638.trans (bq640.mono (Nat.le_trans (Nat.le_of_eq HBS.out) hBq638.size))
          clear hCq633 hCq634 hCq635 hCq636 hCq637 hNq629 hBq638
          clear bq640
          have hHq652 := Lib.hid hR
          clear hR
          have HRI := Lib.hid hRi
          have HRM := Lib.hid hRm
          have HRL := Lib.hid hRl
          clear hRi hRm hRl
          go_wp2_with (first | ((with_reducible show wpList _ _ _ (⟨some 129, _, _, _, _, _⟩ :: _) _ _); refine wpList_load_mid rfl 22 (.tmp 14) rfl (wq595.heap.size) 0 (by rfl) (gd.map bv) _ (blk_rangeP hCq649) Try.underlying22 rfl (by rw [List.length_map, HGD.out]; exact Try.sizeA32) ?_) | ((with_reducible show wpList _ _ _ (⟨some 130, _, _, _, _, _⟩ :: _) _ _); refine wpList_bsH rfl 90 22 (.tmp 129) rfl gd HGD.out (by rfl) Try.underlying90 Try.infoH2 ?_; intro qq653 wq654 eqq655 szq656 bbq657 hNq658; have ltq659 : mb < wq639.heap.size := hCq645.lt; have ltq660 : jb < wq639.heap.size := hCq646.lt; have ltq661 : wq595.heap.size < wq639.heap.size := hCq649.lt; have ltq662 : qq624 < wq639.heap.size := hCq650.lt; have hCq663 := hCq645.below bbq657 hCq645.lt; have hCq664 := hCq646.below bbq657 hCq646.lt; have hCq665 := Lib.hid (hCq647.out.below bbq657); have hCq666 := Lib.hid (hCq648.out.below bbq657); have hCq667 := hCq649.below bbq657 hCq649.lt; have hCq668 := hCq650.below bbq657 hCq650.lt; have hCq669 := Lib.hid (hHq652.out.below bbq657); have hBq670 := hBq651.trans (bbq657.mono (Nat.le_trans (Nat.le_of_eq HBS.out) hBq651.size)); clear hCq645 hCq646 hCq647 hCq648 hCq649 hCq650 hHq652 hBq651; clear bbq657 eqq655 szq656))
          have ltq673 : mb < wq654.heap.size := hCq663.lt
          have ltq674 : jb < wq654.heap.size := hCq664.lt
          have ltq675 : wq595.heap.size < wq654.heap.size := hCq667.lt
          have ltq676 : qq624 < wq654.heap.size := hCq668.lt
          have ltq677 : qq653 < wq654.heap.size := hNq658.lt
          refine (RefFollows_calls _ _ FF [gd] _ hCq666.out.at (HashesAt.one hNq658 HGD.out (by omega)) HFFO.out HUN.out (Nat.le_trans HFFL.out.1 (by omega))).mono ?_
          rintro e wq671 ⟨v6, R2, rfl, hR2, hR2i, hR2m, bq672⟩
          have hCq678 := hCq663.below bq672 hCq663.lt
          have hCq679 := hCq664.below bq672 hCq664.lt
          have hCq680 := Lib.hid (hCq665.out.below bq672)
          have hCq681 := Lib.hid (hCq666.out.below bq672)
          have hCq682 := hCq667.below bq672 hCq667.lt
          have hCq683 := hCq668.below bq672 hCq668.lt
          have hCq684 := Lib.hid (hCq669.out.below bq672)
          have hCq685 := hNq658.below bq672 hNq658.lt
          have hBq686 := hBq670.trans (bq672.mono (Nat.le_trans (Nat.le_of_eq HBS.out) hBq670.size))
          clear hCq663 hCq664 hCq665 hCq666 hCq667 hCq668 hCq669 hNq658 hBq670
          clear bq672
          have hHq687 := Lib.hid hR2
          clear hR2
          obtain rfl : R = R2 := rises_ext HRI.out hR2i hCq684.out.1 hHq687.out.1 (fun x => (HRM.out x).trans (hR2m x).symm)
          clear hR2i hR2m
          obtain ⟨xa, xn, xc, rfl, hxn⟩ := hCq684.out.sliceM
          obtain ⟨ya, yn, yc, rfl, hyn⟩ := hHq687.out.at.sliceM
          obtain rfl : xn = yn := by rw [hxn, hyn]
          have HXN := Lib.hid hxn
          have hxl : xn ≤ 500000 := by rw [hxn]; exact HRL.out
          clear hxn hyn
          go_wp2_with fail
          refine (Len_calls _ _ _ _ _ _ _ _ hCq680.out.1).mono ?_
          rintro e ww ⟨rfl, hww⟩
          have hww2 := hww.symm
          clear hww
          subst hww2
          rw [← HN4.out]
          go_wp2_with fail
          have HBz := Lib.hid hBq686
          have HPX : Hid (∀ x, Below wq671.heap.size wq671 x → HashesAt x (.slice xa xn xc) R) := fun x bx => hCq684.out.below bx
          have HPY : Hid (∀ x, Below wq671.heap.size wq671 x → HashesAt x (.slice ya xn yc) R) := fun x bx => hHq687.out.at.below bx
          have HBW : Hid (∀ x, Below wq671.heap.size wq671 x → Below base w x) := fun x bx => HBz.out.trans (bx.mono (Nat.le_trans (Nat.le_of_eq HBS.out) HBz.out.size))
          clear hBq686 hCq678 hCq679 hCq680 hCq681 hCq682 hCq683 hCq684 hCq685 hHq687
          go_loopw [17] (fun i wx => ∃ (k : Nat), k ≤ xn ∧ i = .int .i64 (k : Nat) ∧ Hid (Below wq671.heap.size wq671 wx)) (fun i _ => xn - (intOf i).toNat)
          case atStart => exact ⟨0, by omega, rfl, Lib.hid (Below.refl _ _)⟩
          case round =>
            obtain ⟨k, hk, rfl, HBX⟩ := hrel
            by_cases hlt2 : k < xn
            · obtain ⟨s, hs⟩ : ∃ s, R[k]? = some s := ⟨R[k]'(by rw [← HXN.out]; exact hlt2), List.getElem?_eq_getElem _⟩
              have HS : Hid (s.length = 32) := (HPX.out _ HBX.out).1 s (List.mem_of_getElem? hs)
              obtain ⟨g, o, rfl, hr1⟩ := (HPX.out _ HBX.out).range k s hs
              obtain ⟨g2, o2, rfl, hr2⟩ := (HPY.out _ HBX.out).range k s hs
              have HR1 := Lib.hid hr1
              have HR2 := Lib.hid hr2
              have heq : ∀ x, (Op.equalIn 10000 23 (.agg (s.map bv).toArray) (.agg (s.map bv).toArray)).run Try.prog x = .ok true x := fun x => by rw [run_eq_hash x s s HS.out HS.out]; simp
              clear hs hr1 hr2
              go_wp2_with fail
              refine wp_region_quiet_lit (by kernel_rfl) (by kernel_rfl) ?_
              repeat (first | ((with_reducible show wpQuiet _ _ _ _ (⟨some 153, _, _, _, _, _⟩ :: _) _); refine wpQuiet_loadMid (by rfl) 23 (.tmp 152) rfl g (o + k * 32) (by rfl) (s.map bv) _ (fun w' hw' => range_drewN HR1.out _ hw') Try.underlying23 rfl (by rw [List.length_map, HS.out]; exact Try.sizeHash) ?_; simp only [Act.put, List.setIfInBounds_toArray, List.set_cons_succ, List.set_cons_zero]) | ((with_reducible show wpQuiet _ _ _ _ (⟨some 157, _, _, _, _, _⟩ :: _) _); refine wpQuiet_loadMid (by rfl) 22 (.tmp 156) rfl g2 (o2 + k * 32) (by rfl) (s.map bv) _ (fun w' hw' => range_drewN HR2.out _ hw') Try.underlying22 rfl (by rw [List.length_map, HS.out]; exact Try.sizeA32) ?_; simp only [Act.put, List.setIfInBounds_toArray, List.set_cons_succ, List.set_cons_zero]) | go_big_quiet_step (fail))
              refine wpQuiet_nil ?_
              intro _ hw'
              obtain ⟨nq, hw''⟩ := hw'
              subst hw''
              clear heq
              go_wp2_with fail
              go_roundw
              case rel => exact ⟨k + 1, by omega, by go_num, Lib.hid (below_drewN HBX.out _)⟩
              case measure => simp [intOf]; omega
            · obtain rfl : xn = k := by omega
              go_wp2_with fail
              go_returns
              exact ⟨rfl, HBW.out _ HBX.out⟩
        · have hp : p < 0 ∨ 64 ≤ p := by omega
          by_cases hp0 : p < 0
          · have hp1 : decide (p ≥ 0) = false := by rw [decide_eq_false_iff_not]; omega
            obtain ⟨FF, hFF⟩ : ∃ x, x = FS := ⟨_, rfl⟩
            have HFFO : Hid (∀ f ∈ FF, FOk f) := by show ∀ f ∈ FF, FOk f; rw [hFF]; exact HFOK.out
            have HFFL : Hid (FF.length ≤ 10 ∧ (FF.flatMap (·.ins)).length ≤ 10 ∧ (FF.flatMap (·.outs)).length ≤ 10) := by
              show _ ∧ _ ∧ _
              rw [hFF]
              exact ⟨Nat.le_trans HFS6.out.1 (by omega), Nat.le_trans HFS6.out.2.1 (by omega), Nat.le_trans HFS6.out.2.2 (by omega)⟩
            rw [← hFF] at HBK HLF
            clear hFF
            obtain ⟨a4, n4, c4, hs4, hn4⟩ := HLF.out.sliceR
            have HN4 : Hid (vn = FF.length) := by
              show _ = _
              simp only [Value.slice.injEq] at hs4
              rw [hs4.2.1, hn4]
            clear hs4 hn4
            go_wp2_with ((with_reducible show wpList _ _ _ (⟨some 87, _, _, _, _, _⟩ :: _) _ _); refine wpList_load_mid rfl 22 (.tmp 86) rfl (mb) 160 (by rfl) ((sec Y 5).map bv) _ (sec_range hM (i := 5) (by omega)) Try.underlying22 rfl (by rw [List.length_map, (sec_len HY.out (i := 5) (by omega))]; exact Try.sizeA32) ?_)
            have ltq690 : mb < wr.heap.size := hM.lt
            have ltq691 : jb < wr.heap.size := hJ.lt
            refine (AppBadO_calls (.pointer (some ⟨b, 0, none⟩)) (sec Y 5) p _ (sec_len HY.out (i := 5) (by omega)) hp).mono ?_
            rintro e wq688 ⟨rfl, bq689⟩
            have hCq692 := hM.below bq689 hM.lt
            have hCq693 := hJ.below bq689 hJ.lt
            have hCq694 := Lib.hid (HALL.out.below bq689)
            have hCq695 := Lib.hid (HBK.out.below bq689)
            have hCq696 := Lib.hid (HLF.out.below bq689)
            have hBq697 := hB.trans (bq689.mono (Nat.le_trans (Nat.le_of_eq HBS.out) hB.size))
            clear hM hJ HALL HBK HLF hB
            clear bq689
            have HUW : Hid (0 ≤ u ∧ u ≤ 255) := by
              have e := hwu
              simp [Lit.wf, IntKind.min, IntKind.max, IntKind.bits, IntKind.signed] at e
              exact ⟨by omega, by omega⟩
            obtain ⟨k7, hk7, hk7l⟩ : ∃ k7 : Nat, u % 7 = (k7 : Int) ∧ k7 < 7 := by
              have e := HUW.out
              exact ⟨(u % 7).toNat, by omega, by omega⟩
            have hu0 : 0 ≤ u := HUW.out.1
            have hu1 : u ≤ 255 := HUW.out.2
            have htm : u.tmod 7 = (k7 : Int) := by rw [Int.tmod_eq_emod_of_nonneg hu0]; exact hk7
            obtain ⟨bl, hbl⟩ : ∃ bl, bl = [(sec Y 0), (sec Y 2), (sec Y 1)] := ⟨_, rfl⟩
            have HBL := Lib.hid hbl
            have HBL32 : Hid (∀ h ∈ bl, h.length = 32) := by
              show ∀ h ∈ bl, h.length = 32
              rw [hbl]
              intro h hh
              simp only [List.mem_cons, List.not_mem_nil, or_false] at hh
              rcases hh with rfl | rfl | rfl <;> exact sec_len HY.out (by omega)
            have HLA : Hid (4 = al.length) := by show _ = _; rw [HAL.out]; rfl
            have HLB : Hid (3 = bl.length) := by show _ = _; rw [hbl]; rfl
            obtain ⟨gd, hgd⟩ : ∃ gd, (al ++ bl)[k7]? = some gd := ⟨(al ++ bl)[k7]'(by rw [List.length_append, ← HLA.out, ← HLB.out]; omega), List.getElem?_eq_getElem _⟩
            have HGK := Lib.hid hgd
            have HGD : Hid (gd.length = 32) := by
              show _ = _
              rcases List.mem_append.1 (List.mem_of_getElem? hgd) with e | e
              · exact HAL32.out gd e
              · exact HBL32.out gd e
            clear hbl hgd
            have HUN : Hid ((univ FF [gd]).length ≤ 500000) := by
              show _ ≤ _
              unfold univ
              have e := HFFL.out.2.2
              rw [List.length_append, List.length_singleton]
              omega
            go_wp2_with (first | ((with_reducible show wpList _ _ _ (⟨some 112, _, _, _, _, _⟩ :: _) _ _); refine wpList_load_mid rfl 22 (.tmp 111) rfl (mb) 0 (by rfl) ((sec Y 0).map bv) _ (sec_range hCq692 (i := 0) (by omega)) Try.underlying22 rfl (by rw [List.length_map, (sec_len HY.out (i := 0) (by omega))]; exact Try.sizeA32) ?_) | ((with_reducible show wpList _ _ _ (⟨some 114, _, _, _, _, _⟩ :: _) _ _); refine wpList_load_mid rfl 22 (.tmp 113) rfl (mb) 64 (by rfl) ((sec Y 2).map bv) _ (sec_range hCq692 (i := 2) (by omega)) Try.underlying22 rfl (by rw [List.length_map, (sec_len HY.out (i := 2) (by omega))]; exact Try.sizeA32) ?_) | ((with_reducible show wpList _ _ _ (⟨some 116, _, _, _, _, _⟩ :: _) _ _); refine wpList_load_mid rfl 22 (.tmp 115) rfl (mb) 32 (by rfl) ((sec Y 1).map bv) _ (sec_range hCq692 (i := 1) (by omega)) Try.underlying22 rfl (by rw [List.length_map, (sec_len HY.out (i := 1) (by omega))]; exact Try.sizeA32) ?_) | ((with_reducible show wpList _ _ _ (⟨some 117, _, _, _, _, _⟩ :: _) _ _); refine wpList_bsHs rfl 90 22 3 #[(0, .tmp 112), (1, .tmp 114), (2, .tmp 116)] rfl bl (by rw [HBL.out]; rfl) (by omega) (by omega) HBL32.out (by rw [HBL.out]; simp only [List.map_toArray, List.map_cons, List.map_nil, List.zipIdx_cons, List.zipIdx_nil]; rfl) Try.underlying90 Try.infoH2 ?_; intro qq698 wq699 eqq700 szq701 bbq702 hNq703; have ltq704 : mb < wq688.heap.size := hCq692.lt; have ltq705 : jb < wq688.heap.size := hCq693.lt; have hCq706 := hCq692.below bbq702 hCq692.lt; have hCq707 := hCq693.below bbq702 hCq693.lt; have hCq708 := Lib.hid (hCq694.out.below bbq702); have hCq709 := Lib.hid (hCq695.out.below bbq702); have hCq710 := Lib.hid (hCq696.out.below bbq702); have hBq711 := hBq697.trans (bbq702.mono (Nat.le_trans (Nat.le_of_eq HBS.out) hBq697.size)); clear hCq692 hCq693 hCq694 hCq695 hCq696 hBq697; have HOBq712 := Lib.hid hNq703; clear bbq702 eqq700 szq701 hNq703) | ((with_reducible show wpList _ _ _ (⟨some 118, _, _, _, _, _⟩ :: _) _ _); refine wpList_append_full rfl (.tmp 110) (.tmp 117) 90 rfl 22 Try.underlying90 Try.infoH3 qq143 4 al (by rfl) hCq708.out.at qq698 3 3 bl (by rfl) HOBq712.out.at HLA.out HLB.out (by omega) 7 rfl (by rw [← HLA.out, ← HLB.out]; omega) ?_; intro gq713 cq714 wq715 hgq716 hatq717 bq718; have ltq719 : mb < wq699.heap.size := hCq706.lt; have ltq720 : jb < wq699.heap.size := hCq707.lt; have hCq721 := hCq706.below bq718 hCq706.lt; have hCq722 := hCq707.below bq718 hCq707.lt; have hCq723 := Lib.hid (hCq708.out.below bq718); have hCq724 := Lib.hid (hCq709.out.below bq718); have hCq725 := Lib.hid (hCq710.out.below bq718); have hCq726 := Lib.hid (HOBq712.out.below bq718); have hBq727 := hBq711.trans (bq718.mono (Nat.le_trans (Nat.le_of_eq HBS.out) hBq711.size)); clear hCq706 hCq707 hCq708 hCq709 hCq710 HOBq712 hBq711; have HATq728 := Lib.hid hatq717; clear bq718 hgq716 hatq717) | ((with_reducible show wpList _ _ _ (⟨some 123, _, _, _, _, _⟩ :: _) _ _); refine wpList_load_mid rfl 22 (.tmp 122) rfl gq713 (k7 * 32) (by rfl) (gd.map bv) _ (by have e := HATq728.out.range' k7 gd HGK.out; rwa [Nat.zero_add] at e) Try.underlying22 rfl (by rw [List.length_map, HGD.out]; exact Try.sizeA32) ?_) | ((with_reducible show wpList _ _ _ (⟨some 14, _, _, _, _, _⟩ :: _) _ _); refine wpList_allocZ rfl 22 rfl _ Try.zeroA32 ?_; intro wq729 hsq730 baq731 hNq732) | ((with_reducible show wpList _ _ _ (⟨none, Op.store _ (.tmp 14) _, _, _, _, _⟩ :: _) _ _); refine wpList_storeBlk rfl 22 (.tmp 14) (.tmp 123) rfl (wq715.heap.size) ((gd.map bv).toArray) (by rfl) (by rfl) _ _ hNq732 (by rw [bv_size, HGD.out]; exact Try.sizeA32) (by rw [bv_size, HGD.out, Z32_size]) (bv_all _) ?_; intro wq733 hKq734 gq735; have bbq736 := below_new baq731 gq735 (Nat.le_refl _) baq731.size; have ltq737 : mb < wq715.heap.size := hCq721.lt; have ltq738 : jb < wq715.heap.size := hCq722.lt; have hCq739 := hCq721.below bbq736 hCq721.lt; have hCq740 := hCq722.below bbq736 hCq722.lt; have hCq741 := Lib.hid (hCq724.out.below bbq736); have hCq742 := Lib.hid (hCq725.out.below bbq736); have hBq743 := hBq727.trans (bbq736.mono (Nat.le_trans (Nat.le_of_eq HBS.out) hBq727.size)); clear hCq721 hCq722 hCq724 hCq725 hBq727; clear bbq736 baq731 hNq732 gq735 hsq730) | ((with_reducible show wpList _ _ _ (⟨some 125, _, _, _, _, _⟩ :: _) _ _); refine wpList_load_mid rfl 22 (.tmp 14) rfl (wq715.heap.size) 0 (by rfl) (gd.map bv) _ (blk_rangeP hKq734) Try.underlying22 rfl (by rw [List.length_map, HGD.out]; exact Try.sizeA32) ?_) | ((with_reducible show wpList _ _ _ (⟨some 126, _, _, _, _, _⟩ :: _) _ _); refine wpList_bsH rfl 49 23 (.tmp 125) rfl gd HGD.out (by rfl) Try.underlying49 Try.infoHash2 ?_; intro qq744 wq745 eqq746 szq747 bbq748 hNq749; have ltq750 : mb < wq733.heap.size := hCq739.lt; have ltq751 : jb < wq733.heap.size := hCq740.lt; have ltq752 : wq715.heap.size < wq733.heap.size := hKq734.lt; have hCq753 := hCq739.below bbq748 hCq739.lt; have hCq754 := hCq740.below bbq748 hCq740.lt; have hCq755 := Lib.hid (hCq741.out.below bbq748); have hCq756 := Lib.hid (hCq742.out.below bbq748); have hCq757 := hKq734.below bbq748 hKq734.lt; have hBq758 := hBq743.trans (bbq748.mono (Nat.le_trans (Nat.le_of_eq HBS.out) hBq743.size)); clear hCq739 hCq740 hCq741 hCq742 hKq734 hBq743; clear bbq748 eqq746 szq747))
            have ltq761 : mb < wq745.heap.size := hCq753.lt
            have ltq762 : jb < wq745.heap.size := hCq754.lt
            have ltq763 : wq715.heap.size < wq745.heap.size := hCq757.lt
            have ltq764 : qq744 < wq745.heap.size := hNq749.lt
            refine (Follows_gen _ _ [gd] FF _ (known_post _ [gd] b FF _ (HashesAt.one hNq749 HGD.out (by omega)) hCq755.out.1.rd HUN.out (Nat.le_trans HFFL.out.1 (by omega)) (Nat.le_trans HFFL.out.2.1 (by omega)))).mono ?_
            rintro e wq759 ⟨v5, R, rfl, hR, hRi, hRm, hRl, bq760⟩
            have hCq765 := hCq753.below bq760 hCq753.lt
            have hCq766 := hCq754.below bq760 hCq754.lt
            have hCq767 := Lib.hid (hCq755.out.below bq760)
            have hCq768 := Lib.hid (hCq756.out.below bq760)
            have hCq769 := hCq757.below bq760 hCq757.lt
            have hCq770 := hNq749.below bq760 hNq749.lt
            have hBq771 := hBq758.trans (bq760.mono (Nat.le_trans (Nat.le_of_eq HBS.out) hBq758.size))
            clear hCq753 hCq754 hCq755 hCq756 hCq757 hNq749 hBq758
            clear bq760
            have hHq772 := Lib.hid hR
            clear hR
            have HRI := Lib.hid hRi
            have HRM := Lib.hid hRm
            have HRL := Lib.hid hRl
            clear hRi hRm hRl
            go_wp2_with (first | ((with_reducible show wpList _ _ _ (⟨some 129, _, _, _, _, _⟩ :: _) _ _); refine wpList_load_mid rfl 22 (.tmp 14) rfl (wq715.heap.size) 0 (by rfl) (gd.map bv) _ (blk_rangeP hCq769) Try.underlying22 rfl (by rw [List.length_map, HGD.out]; exact Try.sizeA32) ?_) | ((with_reducible show wpList _ _ _ (⟨some 130, _, _, _, _, _⟩ :: _) _ _); refine wpList_bsH rfl 90 22 (.tmp 129) rfl gd HGD.out (by rfl) Try.underlying90 Try.infoH2 ?_; intro qq773 wq774 eqq775 szq776 bbq777 hNq778; have ltq779 : mb < wq759.heap.size := hCq765.lt; have ltq780 : jb < wq759.heap.size := hCq766.lt; have ltq781 : wq715.heap.size < wq759.heap.size := hCq769.lt; have ltq782 : qq744 < wq759.heap.size := hCq770.lt; have hCq783 := hCq765.below bbq777 hCq765.lt; have hCq784 := hCq766.below bbq777 hCq766.lt; have hCq785 := Lib.hid (hCq767.out.below bbq777); have hCq786 := Lib.hid (hCq768.out.below bbq777); have hCq787 := hCq769.below bbq777 hCq769.lt; have hCq788 := hCq770.below bbq777 hCq770.lt; have hCq789 := Lib.hid (hHq772.out.below bbq777); have hBq790 := hBq771.trans (bbq777.mono (Nat.le_trans (Nat.le_of_eq HBS.out) hBq771.size)); clear hCq765 hCq766 hCq767 hCq768 hCq769 hCq770 hHq772 hBq771; clear bbq777 eqq775 szq776))
            have ltq793 : mb < wq774.heap.size := hCq783.lt
            have ltq794 : jb < wq774.heap.size := hCq784.lt
            have ltq795 : wq715.heap.size < wq774.heap.size := hCq787.lt
            have ltq796 : qq744 < wq774.heap.size := hCq788.lt
            have ltq797 : qq773 < wq774.heap.size := hNq778.lt
            refine (RefFollows_calls _ _ FF [gd] _ hCq786.out.at (HashesAt.one hNq778 HGD.out (by omega)) HFFO.out HUN.out (Nat.le_trans HFFL.out.1 (by omega))).mono ?_
            rintro e wq791 ⟨v6, R2, rfl, hR2, hR2i, hR2m, bq792⟩
            have hCq798 := hCq783.below bq792 hCq783.lt
            have hCq799 := hCq784.below bq792 hCq784.lt
            have hCq800 := Lib.hid (hCq785.out.below bq792)
            have hCq801 := Lib.hid (hCq786.out.below bq792)
            have hCq802 := hCq787.below bq792 hCq787.lt
            have hCq803 := hCq788.below bq792 hCq788.lt
            have hCq804 := Lib.hid (hCq789.out.below bq792)
            have hCq805 := hNq778.below bq792 hNq778.lt
            have hBq806 := hBq790.trans (bq792.mono (Nat.le_trans (Nat.le_of_eq HBS.out) hBq790.size))
            clear hCq783 hCq784 hCq785 hCq786 hCq787 hCq788 hCq789 hNq778 hBq790
            clear bq792
            have hHq807 := Lib.hid hR2
            clear hR2
            obtain rfl : R = R2 := rises_ext HRI.out hR2i hCq804.out.1 hHq807.out.1 (fun x => (HRM.out x).trans (hR2m x).symm)
            clear hR2i hR2m
            obtain ⟨xa, xn, xc, rfl, hxn⟩ := hCq804.out.sliceM
            obtain ⟨ya, yn, yc, rfl, hyn⟩ := hHq807.out.at.sliceM
            obtain rfl : xn = yn := by rw [hxn, hyn]
            have HXN := Lib.hid hxn
            have hxl : xn ≤ 500000 := by rw [hxn]; exact HRL.out
            clear hxn hyn
            go_wp2_with fail
            refine (Len_calls _ _ _ _ _ _ _ _ hCq800.out.1).mono ?_
            rintro e ww ⟨rfl, hww⟩
            have hww2 := hww.symm
            clear hww
            subst hww2
            rw [← HN4.out]
            go_wp2_with fail
            have HBz := Lib.hid hBq806
            have HPX : Hid (∀ x, Below wq791.heap.size wq791 x → HashesAt x (.slice xa xn xc) R) := fun x bx => hCq804.out.below bx
            have HPY : Hid (∀ x, Below wq791.heap.size wq791 x → HashesAt x (.slice ya xn yc) R) := fun x bx => hHq807.out.at.below bx
            have HBW : Hid (∀ x, Below wq791.heap.size wq791 x → Below base w x) := fun x bx => HBz.out.trans (bx.mono (Nat.le_trans (Nat.le_of_eq HBS.out) HBz.out.size))
            clear hBq806 hCq798 hCq799 hCq800 hCq801 hCq802 hCq803 hCq804 hCq805 hHq807
            go_loopw [17] (fun i wx => ∃ (k : Nat), k ≤ xn ∧ i = .int .i64 (k : Nat) ∧ Hid (Below wq791.heap.size wq791 wx)) (fun i _ => xn - (intOf i).toNat)
            case atStart => exact ⟨0, by omega, rfl, Lib.hid (Below.refl _ _)⟩
            case round =>
              obtain ⟨k, hk, rfl, HBX⟩ := hrel
              by_cases hlt2 : k < xn
              · obtain ⟨s, hs⟩ : ∃ s, R[k]? = some s := ⟨R[k]'(by rw [← HXN.out]; exact hlt2), List.getElem?_eq_getElem _⟩
                have HS : Hid (s.length = 32) := (HPX.out _ HBX.out).1 s (List.mem_of_getElem? hs)
                obtain ⟨g, o, rfl, hr1⟩ := (HPX.out _ HBX.out).range k s hs
                obtain ⟨g2, o2, rfl, hr2⟩ := (HPY.out _ HBX.out).range k s hs
                have HR1 := Lib.hid hr1
                have HR2 := Lib.hid hr2
                have heq : ∀ x, (Op.equalIn 10000 23 (.agg (s.map bv).toArray) (.agg (s.map bv).toArray)).run Try.prog x = .ok true x := fun x => by rw [run_eq_hash x s s HS.out HS.out]; simp
                clear hs hr1 hr2
                go_wp2_with fail
                refine wp_region_quiet_lit (by kernel_rfl) (by kernel_rfl) ?_
                repeat (first | ((with_reducible show wpQuiet _ _ _ _ (⟨some 153, _, _, _, _, _⟩ :: _) _); refine wpQuiet_loadMid (by rfl) 23 (.tmp 152) rfl g (o + k * 32) (by rfl) (s.map bv) _ (fun w' hw' => range_drewN HR1.out _ hw') Try.underlying23 rfl (by rw [List.length_map, HS.out]; exact Try.sizeHash) ?_; simp only [Act.put, List.setIfInBounds_toArray, List.set_cons_succ, List.set_cons_zero]) | ((with_reducible show wpQuiet _ _ _ _ (⟨some 157, _, _, _, _, _⟩ :: _) _); refine wpQuiet_loadMid (by rfl) 22 (.tmp 156) rfl g2 (o2 + k * 32) (by rfl) (s.map bv) _ (fun w' hw' => range_drewN HR2.out _ hw') Try.underlying22 rfl (by rw [List.length_map, HS.out]; exact Try.sizeA32) ?_; simp only [Act.put, List.setIfInBounds_toArray, List.set_cons_succ, List.set_cons_zero]) | go_big_quiet_step (fail))
                refine wpQuiet_nil ?_
                intro _ hw'
                obtain ⟨nq, hw''⟩ := hw'
                subst hw''
                clear heq
                go_wp2_with fail
                go_roundw
                case rel => exact ⟨k + 1, by omega, by go_num, Lib.hid (below_drewN HBX.out _)⟩
                case measure => simp [intOf]; omega
              · obtain rfl : xn = k := by omega
                go_wp2_with fail
                go_returns
                exact ⟨rfl, HBW.out _ HBX.out⟩
          · have hp1 : decide (p ≥ 0) = true := by rw [decide_eq_true_eq]; omega
            have hp2 : decide (p < 64) = false := by rw [decide_eq_false_iff_not]; omega
            obtain ⟨FF, hFF⟩ : ∃ x, x = FS := ⟨_, rfl⟩
            have HFFO : Hid (∀ f ∈ FF, FOk f) := by show ∀ f ∈ FF, FOk f; rw [hFF]; exact HFOK.out
            have HFFL : Hid (FF.length ≤ 10 ∧ (FF.flatMap (·.ins)).length ≤ 10 ∧ (FF.flatMap (·.outs)).length ≤ 10) := by
              show _ ∧ _ ∧ _
              rw [hFF]
              exact ⟨Nat.le_trans HFS6.out.1 (by omega), Nat.le_trans HFS6.out.2.1 (by omega), Nat.le_trans HFS6.out.2.2 (by omega)⟩
            rw [← hFF] at HBK HLF
            clear hFF
            obtain ⟨a4, n4, c4, hs4, hn4⟩ := HLF.out.sliceR
            have HN4 : Hid (vn = FF.length) := by
              show _ = _
              simp only [Value.slice.injEq] at hs4
              rw [hs4.2.1, hn4]
            clear hs4 hn4
            go_wp2_with ((with_reducible show wpList _ _ _ (⟨some 87, _, _, _, _, _⟩ :: _) _ _); refine wpList_load_mid rfl 22 (.tmp 86) rfl (mb) 160 (by rfl) ((sec Y 5).map bv) _ (sec_range hM (i := 5) (by omega)) Try.underlying22 rfl (by rw [List.length_map, (sec_len HY.out (i := 5) (by omega))]; exact Try.sizeA32) ?_)
            have ltq810 : mb < wr.heap.size := hM.lt
            have ltq811 : jb < wr.heap.size := hJ.lt
            refine (AppBadO_calls (.pointer (some ⟨b, 0, none⟩)) (sec Y 5) p _ (sec_len HY.out (i := 5) (by omega)) hp).mono ?_
            rintro e wq808 ⟨rfl, bq809⟩
            have hCq812 := hM.below bq809 hM.lt
            have hCq813 := hJ.below bq809 hJ.lt
            have hCq814 := Lib.hid (HALL.out.below bq809)
            have hCq815 := Lib.hid (HBK.out.below bq809)
            have hCq816 := Lib.hid (HLF.out.below bq809)
            have hBq817 := hB.trans (bq809.mono (Nat.le_trans (Nat.le_of_eq HBS.out) hB.size))
            clear hM hJ HALL HBK HLF hB
            clear bq809
            have HUW : Hid (0 ≤ u ∧ u ≤ 255) := by
              have e := hwu
              simp [Lit.wf, IntKind.min, IntKind.max, IntKind.bits, IntKind.signed] at e
              exact ⟨by omega, by omega⟩
            obtain ⟨k7, hk7, hk7l⟩ : ∃ k7 : Nat, u % 7 = (k7 : Int) ∧ k7 < 7 := by
              have e := HUW.out
              exact ⟨(u % 7).toNat, by omega, by omega⟩
            have hu0 : 0 ≤ u := HUW.out.1
            have hu1 : u ≤ 255 := HUW.out.2
            have htm : u.tmod 7 = (k7 : Int) := by rw [Int.tmod_eq_emod_of_nonneg hu0]; exact hk7
            obtain ⟨bl, hbl⟩ : ∃ bl, bl = [(sec Y 0), (sec Y 2), (sec Y 1)] := ⟨_, rfl⟩
            have HBL := Lib.hid hbl
            have HBL32 : Hid (∀ h ∈ bl, h.length = 32) := by
              show ∀ h ∈ bl, h.length = 32
              rw [hbl]
              intro h hh
              simp only [List.mem_cons, List.not_mem_nil, or_false] at hh
              rcases hh with rfl | rfl | rfl <;> exact sec_len HY.out (by omega)
            have HLA : Hid (4 = al.length) := by show _ = _; rw [HAL.out]; rfl
            have HLB : Hid (3 = bl.length) := by show _ = _; rw [hbl]; rfl
            obtain ⟨gd, hgd⟩ : ∃ gd, (al ++ bl)[k7]? = some gd := ⟨(al ++ bl)[k7]'(by rw [List.length_append, ← HLA.out, ← HLB.out]; omega), List.getElem?_eq_getElem _⟩
            have HGK := Lib.hid hgd
            have HGD : Hid (gd.length = 32) := by
              show _ = _
              rcases List.mem_append.1 (List.mem_of_getElem? hgd) with e | e
              · exact HAL32.out gd e
              · exact HBL32.out gd e
            clear hbl hgd
            have HUN : Hid ((univ FF [gd]).length ≤ 500000) := by
              show _ ≤ _
              unfold univ
              have e := HFFL.out.2.2
              rw [List.length_append, List.length_singleton]
              omega
            go_wp2_with (first | ((with_reducible show wpList _ _ _ (⟨some 112, _, _, _, _, _⟩ :: _) _ _); refine wpList_load_mid rfl 22 (.tmp 111) rfl (mb) 0 (by rfl) ((sec Y 0).map bv) _ (sec_range hCq812 (i := 0) (by omega)) Try.underlying22 rfl (by rw [List.length_map, (sec_len HY.out (i := 0) (by omega))]; exact Try.sizeA32) ?_) | ((with_reducible show wpList _ _ _ (⟨some 114, _, _, _, _, _⟩ :: _) _ _); refine wpList_load_mid rfl 22 (.tmp 113) rfl (mb) 64 (by rfl) ((sec Y 2).map bv) _ (sec_range hCq812 (i := 2) (by omega)) Try.underlying22 rfl (by rw [List.length_map, (sec_len HY.out (i := 2) (by omega))]; exact Try.sizeA32) ?_) | ((with_reducible show wpList _ _ _ (⟨some 116, _, _, _, _, _⟩ :: _) _ _); refine wpList_load_mid rfl 22 (.tmp 115) rfl (mb) 32 (by rfl) ((sec Y 1).map bv) _ (sec_range hCq812 (i := 1) (by omega)) Try.underlying22 rfl (by rw [List.length_map, (sec_len HY.out (i := 1) (by omega))]; exact Try.sizeA32) ?_) | ((with_reducible show wpList _ _ _ (⟨some 117, _, _, _, _, _⟩ :: _) _ _); refine wpList_bsHs rfl 90 22 3 #[(0, .tmp 112), (1, .tmp 114), (2, .tmp 116)] rfl bl (by rw [HBL.out]; rfl) (by omega) (by omega) HBL32.out (by rw [HBL.out]; simp only [List.map_toArray, List.map_cons, List.map_nil, List.zipIdx_cons, List.zipIdx_nil]; rfl) Try.underlying90 Try.infoH2 ?_; intro qq818 wq819 eqq820 szq821 bbq822 hNq823; have ltq824 : mb < wq808.heap.size := hCq812.lt; have ltq825 : jb < wq808.heap.size := hCq813.lt; have hCq826 := hCq812.below bbq822 hCq812.lt; have hCq827 := hCq813.below bbq822 hCq813.lt; have hCq828 := Lib.hid (hCq814.out.below bbq822); have hCq829 := Lib.hid (hCq815.out.below bbq822); have hCq830 := Lib.hid (hCq816.out.below bbq822); have hBq831 := hBq817.trans (bbq822.mono (Nat.le_trans (Nat.le_of_eq HBS.out) hBq817.size)); clear hCq812 hCq813 hCq814 hCq815 hCq816 hBq817; have HOBq832 := Lib.hid hNq823; clear bbq822 eqq820 szq821 hNq823) | ((with_reducible show wpList _ _ _ (⟨some 118, _, _, _, _, _⟩ :: _) _ _); refine wpList_append_full rfl (.tmp 110) (.tmp 117) 90 rfl 22 Try.underlying90 Try.infoH3 qq143 4 al (by rfl) hCq828.out.at qq818 3 3 bl (by rfl) HOBq832.out.at HLA.out HLB.out (by omega) 7 rfl (by rw [← HLA.out, ← HLB.out]; omega) ?_; intro gq833 cq834 wq835 hgq836 hatq837 bq838; have ltq839 : mb < wq819.heap.size := hCq826.lt; have ltq840 : jb < wq819.heap.size := hCq827.lt; have hCq841 := hCq826.below bq838 hCq826.lt; have hCq842 := hCq827.below bq838 hCq827.lt; have hCq843 := Lib.hid (hCq828.out.below bq838); have hCq844 := Lib.hid (hCq829.out.below bq838); have hCq845 := Lib.hid (hCq830.out.below bq838); have hCq846 := Lib.hid (HOBq832.out.below bq838); have hBq847 := hBq831.trans (bq838.mono (Nat.le_trans (Nat.le_of_eq HBS.out) hBq831.size)); clear hCq826 hCq827 hCq828 hCq829 hCq830 HOBq832 hBq831; have HATq848 := Lib.hid hatq837; clear bq838 hgq836 hatq837) | ((with_reducible show wpList _ _ _ (⟨some 123, _, _, _, _, _⟩ :: _) _ _); refine wpList_load_mid rfl 22 (.tmp 122) rfl gq833 (k7 * 32) (by rfl) (gd.map bv) _ (by have e := HATq848.out.range' k7 gd HGK.out; rwa [Nat.zero_add] at e) Try.underlying22 rfl (by rw [List.length_map, HGD.out]; exact Try.sizeA32) ?_) | ((with_reducible show wpList _ _ _ (⟨some 14, _, _, _, _, _⟩ :: _) _ _); refine wpList_allocZ rfl 22 rfl _ Try.zeroA32 ?_; intro wq849 hsq850 baq851 hNq852) | ((with_reducible show wpList _ _ _ (⟨none, Op.store _ (.tmp 14) _, _, _, _, _⟩ :: _) _ _); refine wpList_storeBlk rfl 22 (.tmp 14) (.tmp 123) rfl (wq835.heap.size) ((gd.map bv).toArray) (by rfl) (by rfl) _ _ hNq852 (by rw [bv_size, HGD.out]; exact Try.sizeA32) (by rw [bv_size, HGD.out, Z32_size]) (bv_all _) ?_; intro wq853 hKq854 gq855; have bbq856 := below_new baq851 gq855 (Nat.le_refl _) baq851.size; have ltq857 : mb < wq835.heap.size := hCq841.lt; have ltq858 : jb < wq835.heap.size := hCq842.lt; have hCq859 := hCq841.below bbq856 hCq841.lt; have hCq860 := hCq842.below bbq856 hCq842.lt; have hCq861 := Lib.hid (hCq844.out.below bbq856); have hCq862 := Lib.hid (hCq845.out.below bbq856); have hBq863 := hBq847.trans (bbq856.mono (Nat.le_trans (Nat.le_of_eq HBS.out) hBq847.size)); clear hCq841 hCq842 hCq844 hCq845 hBq847; clear bbq856 baq851 hNq852 gq855 hsq850) | ((with_reducible show wpList _ _ _ (⟨some 125, _, _, _, _, _⟩ :: _) _ _); refine wpList_load_mid rfl 22 (.tmp 14) rfl (wq835.heap.size) 0 (by rfl) (gd.map bv) _ (blk_rangeP hKq854) Try.underlying22 rfl (by rw [List.length_map, HGD.out]; exact Try.sizeA32) ?_) | ((with_reducible show wpList _ _ _ (⟨some 126, _, _, _, _, _⟩ :: _) _ _); refine wpList_bsH rfl 49 23 (.tmp 125) rfl gd HGD.out (by rfl) Try.underlying49 Try.infoHash2 ?_; intro qq864 wq865 eqq866 szq867 bbq868 hNq869; have ltq870 : mb < wq853.heap.size := hCq859.lt; have ltq871 : jb < wq853.heap.size := hCq860.lt; have ltq872 : wq835.heap.size < wq853.heap.size := hKq854.lt; have hCq873 := hCq859.below bbq868 hCq859.lt; have hCq874 := hCq860.below bbq868 hCq860.lt; have hCq875 := Lib.hid (hCq861.out.below bbq868); have hCq876 := Lib.hid (hCq862.out.below bbq868); have hCq877 := hKq854.below bbq868 hKq854.lt; have hBq878 := hBq863.trans (bbq868.mono (Nat.le_trans (Nat.le_of_eq HBS.out) hBq863.size)); clear hCq859 hCq860 hCq861 hCq862 hKq854 hBq863; clear bbq868 eqq866 szq867))
            have ltq881 : mb < wq865.heap.size := hCq873.lt
            have ltq882 : jb < wq865.heap.size := hCq874.lt
            have ltq883 : wq835.heap.size < wq865.heap.size := hCq877.lt
            have ltq884 : qq864 < wq865.heap.size := hNq869.lt
            refine (Follows_gen _ _ [gd] FF _ (known_post _ [gd] b FF _ (HashesAt.one hNq869 HGD.out (by omega)) hCq875.out.1.rd HUN.out (Nat.le_trans HFFL.out.1 (by omega)) (Nat.le_trans HFFL.out.2.1 (by omega)))).mono ?_
            rintro e wq879 ⟨v5, R, rfl, hR, hRi, hRm, hRl, bq880⟩
            have hCq885 := hCq873.below bq880 hCq873.lt
            have hCq886 := hCq874.below bq880 hCq874.lt
            have hCq887 := Lib.hid (hCq875.out.below bq880)
            have hCq888 := Lib.hid (hCq876.out.below bq880)
            have hCq889 := hCq877.below bq880 hCq877.lt
            have hCq890 := hNq869.below bq880 hNq869.lt
            have hBq891 := hBq878.trans (bq880.mono (Nat.le_trans (Nat.le_of_eq HBS.out) hBq878.size))
            clear hCq873 hCq874 hCq875 hCq876 hCq877 hNq869 hBq878
            clear bq880
            have hHq892 := Lib.hid hR
            clear hR
            have HRI := Lib.hid hRi
            have HRM := Lib.hid hRm
            have HRL := Lib.hid hRl
            clear hRi hRm hRl
            go_wp2_with (first | ((with_reducible show wpList _ _ _ (⟨some 129, _, _, _, _, _⟩ :: _) _ _); refine wpList_load_mid rfl 22 (.tmp 14) rfl (wq835.heap.size) 0 (by rfl) (gd.map bv) _ (blk_rangeP hCq889) Try.underlying22 rfl (by rw [List.length_map, HGD.out]; exact Try.sizeA32) ?_) | ((with_reducible show wpList _ _ _ (⟨some 130, _, _, _, _, _⟩ :: _) _ _); refine wpList_bsH rfl 90 22 (.tmp 129) rfl gd HGD.out (by rfl) Try.underlying90 Try.infoH2 ?_; intro qq893 wq894 eqq895 szq896 bbq897 hNq898; have ltq899 : mb < wq879.heap.size := hCq885.lt; have ltq900 : jb < wq879.heap.size := hCq886.lt; have ltq901 : wq835.heap.size < wq879.heap.size := hCq889.lt; have ltq902 : qq864 < wq879.heap.size := hCq890.lt; have hCq903 := hCq885.below bbq897 hCq885.lt; have hCq904 := hCq886.below bbq897 hCq886.lt; have hCq905 := Lib.hid (hCq887.out.below bbq897); have hCq906 := Lib.hid (hCq888.out.below bbq897); have hCq907 := hCq889.below bbq897 hCq889.lt; have hCq908 := hCq890.below bbq897 hCq890.lt; have hCq909 := Lib.hid (hHq892.out.below bbq897); have hBq910 := hBq891.trans (bbq897.mono (Nat.le_trans (Nat.le_of_eq HBS.out) hBq891.size)); clear hCq885 hCq886 hCq887 hCq888 hCq889 hCq890 hHq892 hBq891; clear bbq897 eqq895 szq896))
            have ltq913 : mb < wq894.heap.size := hCq903.lt
            have ltq914 : jb < wq894.heap.size := hCq904.lt
            have ltq915 : wq835.heap.size < wq894.heap.size := hCq907.lt
            have ltq916 : qq864 < wq894.heap.size := hCq908.lt
            have ltq917 : qq893 < wq894.heap.size := hNq898.lt
            refine (RefFollows_calls _ _ FF [gd] _ hCq906.out.at (HashesAt.one hNq898 HGD.out (by omega)) HFFO.out HUN.out (Nat.le_trans HFFL.out.1 (by omega))).mono ?_
            rintro e wq911 ⟨v6, R2, rfl, hR2, hR2i, hR2m, bq912⟩
            have hCq918 := hCq903.below bq912 hCq903.lt
            have hCq919 := hCq904.below bq912 hCq904.lt
            have hCq920 := Lib.hid (hCq905.out.below bq912)
            have hCq921 := Lib.hid (hCq906.out.below bq912)
            have hCq922 := hCq907.below bq912 hCq907.lt
            have hCq923 := hCq908.below bq912 hCq908.lt
            have hCq924 := Lib.hid (hCq909.out.below bq912)
            have hCq925 := hNq898.below bq912 hNq898.lt
            have hBq926 := hBq910.trans (bq912.mono (Nat.le_trans (Nat.le_of_eq HBS.out) hBq910.size))
            clear hCq903 hCq904 hCq905 hCq906 hCq907 hCq908 hCq909 hNq898 hBq910
            clear bq912
            have hHq927 := Lib.hid hR2
            clear hR2
            obtain rfl : R = R2 := rises_ext HRI.out hR2i hCq924.out.1 hHq927.out.1 (fun x => (HRM.out x).trans (hR2m x).symm)
            clear hR2i hR2m
            obtain ⟨xa, xn, xc, rfl, hxn⟩ := hCq924.out.sliceM
            obtain ⟨ya, yn, yc, rfl, hyn⟩ := hHq927.out.at.sliceM
            obtain rfl : xn = yn := by rw [hxn, hyn]
            have HXN := Lib.hid hxn
            have hxl : xn ≤ 500000 := by rw [hxn]; exact HRL.out
            clear hxn hyn
            go_wp2_with fail
            refine (Len_calls _ _ _ _ _ _ _ _ hCq920.out.1).mono ?_
            rintro e ww ⟨rfl, hww⟩
            have hww2 := hww.symm
            clear hww
            subst hww2
            rw [← HN4.out]
            go_wp2_with fail
            have HBz := Lib.hid hBq926
            have HPX : Hid (∀ x, Below wq911.heap.size wq911 x → HashesAt x (.slice xa xn xc) R) := fun x bx => hCq924.out.below bx
            have HPY : Hid (∀ x, Below wq911.heap.size wq911 x → HashesAt x (.slice ya xn yc) R) := fun x bx => hHq927.out.at.below bx
            have HBW : Hid (∀ x, Below wq911.heap.size wq911 x → Below base w x) := fun x bx => HBz.out.trans (bx.mono (Nat.le_trans (Nat.le_of_eq HBS.out) HBz.out.size))
            clear hBq926 hCq918 hCq919 hCq920 hCq921 hCq922 hCq923 hCq924 hCq925 hHq927
            go_loopw [17] (fun i wx => ∃ (k : Nat), k ≤ xn ∧ i = .int .i64 (k : Nat) ∧ Hid (Below wq911.heap.size wq911 wx)) (fun i _ => xn - (intOf i).toNat)
            case atStart => exact ⟨0, by omega, rfl, Lib.hid (Below.refl _ _)⟩
            case round =>
              obtain ⟨k, hk, rfl, HBX⟩ := hrel
              by_cases hlt2 : k < xn
              · obtain ⟨s, hs⟩ : ∃ s, R[k]? = some s := ⟨R[k]'(by rw [← HXN.out]; exact hlt2), List.getElem?_eq_getElem _⟩
                have HS : Hid (s.length = 32) := (HPX.out _ HBX.out).1 s (List.mem_of_getElem? hs)
                obtain ⟨g, o, rfl, hr1⟩ := (HPX.out _ HBX.out).range k s hs
                obtain ⟨g2, o2, rfl, hr2⟩ := (HPY.out _ HBX.out).range k s hs
                have HR1 := Lib.hid hr1
                have HR2 := Lib.hid hr2
                have heq : ∀ x, (Op.equalIn 10000 23 (.agg (s.map bv).toArray) (.agg (s.map bv).toArray)).run Try.prog x = .ok true x := fun x => by rw [run_eq_hash x s s HS.out HS.out]; simp
                clear hs hr1 hr2
                go_wp2_with fail
                refine wp_region_quiet_lit (by kernel_rfl) (by kernel_rfl) ?_
                repeat (first | ((with_reducible show wpQuiet _ _ _ _ (⟨some 153, _, _, _, _, _⟩ :: _) _); refine wpQuiet_loadMid (by rfl) 23 (.tmp 152) rfl g (o + k * 32) (by rfl) (s.map bv) _ (fun w' hw' => range_drewN HR1.out _ hw') Try.underlying23 rfl (by rw [List.length_map, HS.out]; exact Try.sizeHash) ?_; simp only [Act.put, List.setIfInBounds_toArray, List.set_cons_succ, List.set_cons_zero]) | ((with_reducible show wpQuiet _ _ _ _ (⟨some 157, _, _, _, _, _⟩ :: _) _); refine wpQuiet_loadMid (by rfl) 22 (.tmp 156) rfl g2 (o2 + k * 32) (by rfl) (s.map bv) _ (fun w' hw' => range_drewN HR2.out _ hw') Try.underlying22 rfl (by rw [List.length_map, HS.out]; exact Try.sizeA32) ?_; simp only [Act.put, List.setIfInBounds_toArray, List.set_cons_succ, List.set_cons_zero]) | go_big_quiet_step (fail))
                refine wpQuiet_nil ?_
                intro _ hw'
                obtain ⟨nq, hw''⟩ := hw'
                subst hw''
                clear heq
                go_wp2_with fail
                go_roundw
                case rel => exact ⟨k + 1, by omega, by go_num, Lib.hid (below_drewN HBX.out _)⟩
                case measure => simp [intOf]; omega
              · obtain rfl : xn = k := by omega
                go_wp2_with fail
                go_returns
                exact ⟨rfl, HBW.out _ HBX.out⟩
  · have hlb : decide ((c.length : Int) > 5000) = true := by rw [decide_eq_true_eq]; omega
    go_enter Try.func23, Try.ntmps23
    go_wp2_with ((with_reducible show wpList _ _ _ (⟨some 4, _, _, _, _, _⟩ :: _) _ _); refine wpList_boxA rfl 23 (.tmp 0) rfl (j.map bv).toArray (by rfl) ?_; intro wq1 bq2 nq3; have hBq4 := hB0.trans (bq2.mono (Nat.le_trans (Nat.le_of_eq HBS.out) hB0.size)); clear hB0; clear bq2)
    have ltq7 : w.heap.size < wq1.heap.size := nq3.lt
    refine (awake_calls _).mono ?_
    rintro e wq5 ⟨rfl, bq6⟩
    have hCq8 := nq3.below bq6 nq3.lt
    have hBq9 := hBq4.trans (bq6.mono (Nat.le_trans (Nat.le_of_eq HBS.out) hBq4.size))
    clear nq3 hBq4
    clear bq6
    go_wp2_with fail
    have ltq12 : w.heap.size < wq5.heap.size := hCq8.lt
    refine (awake_calls _).mono ?_
    rintro e wq10 ⟨rfl, bq11⟩
    have hCq13 := hCq8.below bq11 hCq8.lt
    have hBq14 := hBq9.trans (bq11.mono (Nat.le_trans (Nat.le_of_eq HBS.out) hBq9.size))
    clear hCq8 hBq9
    clear bq11
    go_wp2_with fail
    go_returns
    exact ⟨rfl, hBq14⟩
end Go.Proofs.Ytnfegmcdljejnaa
