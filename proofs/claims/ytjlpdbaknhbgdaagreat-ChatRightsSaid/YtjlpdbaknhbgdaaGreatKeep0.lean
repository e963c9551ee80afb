/-
  climb.Keep and bevyref09.Keep of no keys; sorting of at most one key; the look at an era's times.
-/
import Derived.Test.YtjlpdbaknhbgdaaGreatRefTree
import Derived.Test.YtjlpdbaknhbgdaaGreatTreeCopy
import Derived.WalkLawsBesides
import Derived.Lib.SliceRun
import Derived.Outline
import Derived.Handy
set_option linter.unusedSimpArgs false
set_option linter.unusedVariables false
namespace Go.Proofs.YtjlpdbaknhbgdaaGreat
open Go.RowKit

/-- A node's key. -/
structure KeyA where
  n : Int
  h : List UInt8
  hh : h.length = 32
def KeyA.cells (k : KeyA) : List Value := .int .i64 k.n :: k.h.map bv
theorem KeyA.cells_len (k : KeyA) : k.cells.length = 33 := by simp [KeyA.cells, k.hh]
theorem keyCells_one (k : KeyA) : ∀ u ∈ k.cells, u.oneCell' = true := by
  intro u hu
  unfold KeyA.cells at hu
  simp only [List.mem_cons, List.mem_map] at hu
  rcases hu with rfl | ⟨y, _, rfl⟩ <;> rfl
def zeroK : KeyA := ⟨0, z32L, rfl⟩
theorem Tryz.infoKey3 : (Tryz.prog.info? 142).map (fun i => (i.zero, i.size, i.bytes)) = some (some (.agg zeroK.cells.toArray), 33, 40) := by kernel_rfl
set_option maxHeartbeats 4000000 in
set_option maxRecDepth 100000 in
theorem CloneK_calls (v : Value) (L : List KeyA) (w : World) (h : RAt KeyA.cells w v L) (hn : L.length ≤ 1000000) :
    Calls Tryz.prog 64 #[v] w fun e w' => ∃ ao c, e = .returned (.slice ao L.length c) ∧ ROwn KeyA.cells 33 w' w.heap.size 142 (.slice ao L.length c) L ∧ Below w.heap.size w w' := by
  obtain ⟨ao, c, rfl⟩ := h.slice
  cases ao with
  | none =>
    have hl : L = [] := by
      rcases h with ⟨h0, _⟩ | ⟨g, o, c', e, _⟩
      · exact h0
      · injection e with e1; cases e1
    subst hl
    have hbo : ∀ x, (binOp BinOp.eql 32 (.slice none 0 c) (.slice none 0 0)).run Tryz.prog x = .ok (.bool true) x := fun x => Lib.run_eql_slice_nil x _ _ none 0 c 0 0 Tryz.underlying32
    clear h hn
    go_enter Tryz.func64, Tryz.ntmps64
    go_wp2_with fail
    go_returns
    exact ⟨none, 0, rfl, ROwn.nil _ _ _, Below.refl _ _⟩
  | some ad =>
    obtain ⟨base, hbase⟩ : ∃ base, base = w.heap.size := ⟨_, rfl⟩
    have HBS : Hid (base = w.heap.size) := hbase
    have hbo : ∀ x, (binOp BinOp.eql 32 (.slice (some ad) L.length c) (.slice none 0 0)).run Tryz.prog x = .ok (.bool false) x := fun x => Lib.run_eql_slice_nil x _ _ (some ad) L.length c 0 0 Tryz.underlying32
    have H1 : Hid (RAt KeyA.cells (w.alloc (.cells #[] 142)) (.slice (some ad) L.length c) L) := h.below (below_alloc1 _ _)
    have HN := Lib.hid hn
    rw [← hbase]
    clear h hbase hn
    go_enter Tryz.func64, Tryz.ntmps64
    go_wp2_with ((with_reducible show wpList _ _ _ (⟨some 7, _, _, _, _, _⟩ :: _) _ _); refine wpList_append_R rfl (.tmp 5) (.tmp 6) 32 rfl KeyA.cells_len keyCells_one base 142 _ 40 Tryz.underlying32 Tryz.infoKey3 (by show zeroK.cells.toArray.size = 33; rw [List.size_toArray]; exact zeroK.cells_len) (by omega) (by omega) _ [] L (by rfl) (ROwn.made w base _ (Nat.le_of_eq HBS.out)) _ (by rfl) H1.out (fun _ e => by cases e) (by have := HN.out; simp; omega) (Nat.le_trans (Nat.le_of_eq HBS.out) (below_alloc1 _ _).size) ?_; intro v2 w2 h2 g2)
    go_returns
    obtain ⟨ao2, c2, rfl⟩ := h2.slice
    exact ⟨ao2, c2, by rw [List.nil_append]; rfl, by rw [List.nil_append] at h2; exact h2, by rw [HBS.out]; exact (below_alloc1 w _).grown g2 (below_alloc1 _ _).size (fun q e => by simp [Value.ownBlock] at e; omega)⟩
set_option maxHeartbeats 4000000 in
set_option maxRecDepth 100000 in
theorem ins01_calls (ao : Option Addr) (n c : Nat) (f : Value) (hn : n ≤ 1) (w : World) :
    Calls Tryz.prog 224 #[.slice ao n c, .int .i64 0, .int .i64 n, f] w fun e w' => e = .returned (.tuple #[]) ∧ w' = w := by
  go_enter Tryz.func224, Tryz.ntmps224
  go_wp2_with fail
  have h1 : ¬ (1 : Int) < n := by omega
  go_loopw [8] (fun j wr => j = .int .i64 1 ∧ wr = w) (fun _ _ => 0)
  case atStart => exact ⟨rfl, rfl⟩
  case round =>
    obtain ⟨rfl, rfl⟩ := hrel
    go_wp2_with fail
    go_returns
    exact ⟨rfl, rfl⟩
set_option maxHeartbeats 4000000 in
set_option maxRecDepth 100000 in
theorem stable01_calls (ao : Option Addr) (n c : Nat) (f : Value) (hn : n ≤ 1) (w : World) :
    Calls Tryz.prog 215 #[.slice ao n c, .int .i64 n, f] w fun e w' => e = .returned (.tuple #[]) ∧ w' = w := by
  have h1 : ¬ (20 : Int) ≤ n := by omega
  have h2 : ¬ (20 : Int) < n := by omega
  have HN := Lib.hid hn
  clear hn
  go_enter Tryz.func215, Tryz.ntmps215
  go_wp2_with fail
  go_loopw [7, 8] (fun a j wr => a = .int .i64 0 ∧ j = .int .i64 20 ∧ wr = w) (fun _ _ _ => 0)
  case atStart => exact ⟨rfl, rfl, rfl⟩
  case round =>
    obtain ⟨rfl, rfl, hw⟩ := hrel
    have HW := Lib.hid hw
    clear hw
    go_wp2_with fail
    refine (ins01_calls ao n c f HN.out _).mono ?_
    rintro e w1 ⟨rfl, h1w⟩
    have HW1 := Lib.hid (h1w.trans HW.out)
    clear h1w HW
    go_wp2_with fail
    go_loopw [6] (fun j wr2 => j = .int .i64 20 ∧ wr2 = w) (fun _ _ => 0)
    case atStart => exact ⟨rfl, HW1.out⟩
    case round =>
      obtain ⟨rfl, hw2⟩ := hrel
      have HW2 := Lib.hid hw2
      clear hw2
      go_wp2_with fail
      go_returns
      exact ⟨rfl, HW2.out⟩
set_option maxHeartbeats 4000000 in
set_option maxRecDepth 100000 in
theorem sort01_calls (ao : Option Addr) (n c : Nat) (f : Value) (hn : n ≤ 1) (w : World) :
    Calls Tryz.prog 188 #[.slice ao n c, f] w fun e w' => e = .returned (.tuple #[]) ∧ w' = w := by
  go_enter Tryz.func188, Tryz.ntmps188
  go_wp2_with fail
  refine (stable01_calls ao n c f hn _).mono ?_
  rintro e w1 ⟨rfl, rfl⟩
  go_wp2_with fail
  go_returns
  exact ⟨rfl, rfl⟩
theorem compact01_calls (ao : Option Addr) (n c : Nat) (f : Value) (hn : n ≤ 1) (w : World) :
    Calls Tryz.prog 190 #[.slice ao n c, f] w fun e w' => e = .returned (.slice ao n c) ∧ w' = w := by
  have h1 : (n : Int) < 2 := by omega
  go_enter Tryz.func190, Tryz.ntmps190
  go_wp2_with fail
  go_returns
  exact ⟨rfl, rfl⟩
theorem sorted01_calls (v : Value) (L : List KeyA) (w : World) (h : RAt KeyA.cells w v L) (hn : L.length ≤ 1) :
    Calls Tryz.prog 148 #[v] w fun e w' => ∃ ao c, e = .returned (.slice ao L.length c) ∧ ROwn KeyA.cells 33 w' w.heap.size 142 (.slice ao L.length c) L ∧ Below w.heap.size w w' := by
  have HC : Hid (Calls Tryz.prog 64 #[v] w fun e w' => ∃ ao c, e = .returned (.slice ao L.length c) ∧ ROwn KeyA.cells 33 w' w.heap.size 142 (.slice ao L.length c) L ∧ Below w.heap.size w w') := CloneK_calls v L w h (by omega)
  have HN := Lib.hid hn
  obtain ⟨n, hnn⟩ : ∃ n, n = L.length := ⟨_, rfl⟩
  rw [← hnn] at HC HN ⊢
  clear h hn hnn
  go_enter Tryz.func148, Tryz.ntmps148
  go_wp2_with fail
  refine HC.out.mono ?_
  rintro e w1 ⟨ao, c, rfl, h1, b1⟩
  have H1 := Lib.hid h1
  have B1 := Lib.hid b1
  clear h1 b1 HC
  go_wp2_with fail
  refine (sort01_calls ao n c _ HN.out _).mono ?_
  rintro e w2 ⟨rfl, rfl⟩
  go_wp2_with fail
  refine (compact01_calls ao n c _ HN.out _).mono ?_
  rintro e w3 ⟨rfl, rfl⟩
  go_wp2_with fail
  go_returns
  exact ⟨ao, c, rfl, H1.out, B1.out⟩
set_option maxHeartbeats 4000000 in
set_option maxRecDepth 100000 in
theorem Keep0_calls (lo po : Option Addr) (n ac m pc : Nat) (lvs : List Value) (T : TreeT) (w : World) (hT : TreeIs w lo n ac po m pc lvs T) (hn : n ≤ 1000000) (hm : m ≤ 1000000) (hR : rightT T = true) :
    Calls Tryz.prog 81 #[.agg #[.slice lo n ac, .slice po m pc], .slice none 0 0] w fun e w' => ∃ ao c, e = .returned (.slice ao 0 c) ∧ ROwn KeyA.cells 33 w' w.heap.size 142 (.slice ao 0 c) [] ∧ Below w.heap.size w w' := by
  have hb0 : Below w.heap.size w (w.alloc (.cells #[.slice lo n ac, .slice po m pc] 27)) := below_alloc1 _ _
  have hA0 : Blk (w.alloc (.cells #[.slice lo n ac, .slice po m pc] 27)) w.heap.size #[.slice lo n ac, .slice po m pc] 27 := Blk.new _ _ _
  have HT1 := Lib.hid (hT.below hb0)
  have c1 : ∀ y, TreeIs y lo n ac po m pc lvs T → Calls Tryz.prog 124 #[.agg #[.slice lo n ac, .slice po m pc]] y fun e w' => e = .returned (.bool true) ∧ Below y.heap.size y w' := fun y hy => by rw [← hR]; exact TreeRight_calls lo po n ac m pc lvs T y hy hn hm
  clear hT hn hm hR
  go_enter Tryz.func81, Tryz.ntmps81
  go_wp2_with ((with_reducible show wpList _ _ _ (⟨some 10, _, _, _, _, _⟩ :: _) _ _); refine wpList_loadBlk rfl 27 (.tmp 2) rfl w.heap.size (by rfl) _ _ _ hA0 Tryz.underlying27 rfl Tryz.sizeTree ?_)
  obtain ⟨W, hW⟩ : ∃ z, z = w.alloc (.cells #[.slice lo n ac, .slice po m pc] 27) := ⟨_, rfl⟩
  rw [← hW] at hA0 hb0 HT1 ⊢
  clear hW
  refine (c1 _ HT1.out).mono ?_
  rintro e w1 ⟨rfl, b1⟩
  have HB1 := Lib.hid (hb0.trans (b1.mono hb0.size))
  clear hA0 hb0 b1 c1 HT1
  go_wp2_with fail
  go_loopw [5, 15] (fun a j wr => a = .slice none 0 0 ∧ j = .int .i64 0 ∧ Hid (Below w.heap.size w wr)) (fun _ _ _ => 0)
  case atStart => exact ⟨rfl, rfl, HB1⟩
  case round =>
    clear HB1
    obtain ⟨rfl, rfl, HB⟩ := hrel
    go_wp2_with fail
    refine (sorted01_calls (.slice none 0 0) [] _ (.inl ⟨rfl, none, 0, rfl⟩) (by simp)).mono ?_
    rintro e w2 ⟨ao, c, rfl, h2, b2⟩
    have H2 := Lib.hid (h2.low HB.out.size)
    have HB2 := Lib.hid (HB.out.trans (b2.mono HB.out.size))
    clear h2 b2 HB
    go_wp2_with fail
    go_returns
    exact ⟨ao, c, rfl, H2.out, HB2.out⟩
set_option maxHeartbeats 4000000 in
set_option maxRecDepth 100000 in
theorem RSorted0_calls (w : World) : Calls Tryz.prog 185 #[.slice none 0 0] w fun e w' => e = .returned (.slice none 0 0) ∧ w' = w := by
  go_enter Tryz.func185, Tryz.ntmps185
  go_wp2_with fail
  go_loopw [3, 4] (fun a j wr => a = .slice none 0 0 ∧ j = .int .i64 0 ∧ wr = w) (fun _ _ _ => 0)
  case atStart => exact ⟨rfl, rfl, rfl⟩
  case round =>
    obtain ⟨rfl, rfl, hw⟩ := hrel
    have HW := Lib.hid hw
    clear hw
    go_wp2_with fail
    go_returns
    exact ⟨rfl, HW.out⟩
set_option maxHeartbeats 4000000 in
set_option maxRecDepth 100000 in
theorem RKeep0_calls (lo po : Option Addr) (n ac m pc : Nat) (lvs : List Value) (T : TreeT) (w : World) (hT : TreeIs w lo n ac po m pc lvs T) (hn : n ≤ 1000000) (hm : m ≤ 1000000) (hR : rightT T = true) :
    Calls Tryz.prog 130 #[.agg #[.slice lo n ac, .slice po m pc], .slice none 0 0] w fun e w' => ∃ ao c, e = .returned (.slice ao 0 c) ∧ ROwn KeyA.cells 33 w' w.heap.size 142 (.slice ao 0 c) [] ∧ Below w.heap.size w w' := by
  have hb0 : Below w.heap.size w (w.alloc (.cells #[.slice lo n ac, .slice po m pc] 27)) := below_alloc1 _ _
  have hA0 : Blk (w.alloc (.cells #[.slice lo n ac, .slice po m pc] 27)) w.heap.size #[.slice lo n ac, .slice po m pc] 27 := Blk.new _ _ _
  have HT1 := Lib.hid (hT.below hb0)
  have c1 : ∀ y, TreeIs y lo n ac po m pc lvs T → Calls Tryz.prog 129 #[.agg #[.slice lo n ac, .slice po m pc]] y fun e w' => e = .returned (.bool true) ∧ Below y.heap.size y w' := fun y hy => by rw [← hR]; exact RRight_calls lo po n ac m pc lvs T y hy hn hm
  clear hT hn hm hR
  go_enter Tryz.func130, Tryz.ntmps130
  go_wp2_with ((with_reducible show wpList _ _ _ (⟨some 9, _, _, _, _, _⟩ :: _) _ _); refine wpList_loadBlk rfl 27 (.tmp 2) rfl w.heap.size (by rfl) _ _ _ hA0 Tryz.underlying27 rfl Tryz.sizeTree ?_)
  obtain ⟨W, hW⟩ : ∃ z, z = w.alloc (.cells #[.slice lo n ac, .slice po m pc] 27) := ⟨_, rfl⟩
  rw [← hW] at hA0 hb0 HT1 ⊢
  clear hW
  refine (c1 _ HT1.out).mono ?_
  rintro e w1 ⟨rfl, b1⟩
  have HB1 := Lib.hid (hb0.trans (b1.mono hb0.size))
  clear hA0 hb0 b1 c1 HT1
  go_wp2_with fail
  go_loopw [5, 6] (fun a j wr => a = .slice none 0 0 ∧ j = .int .i64 0 ∧ Hid (Below w.heap.size w wr)) (fun _ _ _ => 0)
  case atStart => exact ⟨rfl, rfl, HB1⟩
  case round =>
    clear HB1
    obtain ⟨rfl, rfl, HB⟩ := hrel
    go_wp2_with fail
    refine (RSorted0_calls _).mono ?_
    rintro e w2 ⟨rfl, rfl⟩
    go_wp2_with fail
    go_returns
    exact ⟨none, 0, rfl, ROwn.nil _ _ _, HB.out⟩
/-- A number that may not be. -/
def badN (x : Int) : Bool := decide (x < 0) || decide (4611686018427387903 < x)
def firstB (L : List Int) : Int := match L.findIdx? badN with
  | none => -1
  | some i => i
theorem firstB_none {L : List Int} (h : ∀ j x, j < L.length → L[j]? = some x → badN x = false) : firstB L = -1 := by
  have : L.findIdx? badN = none := List.findIdx?_eq_none_iff.2 fun x hx => by
    obtain ⟨j, hj, rfl⟩ := List.getElem_of_mem hx
    exact h j _ hj (List.getElem?_eq_getElem hj)
  rw [firstB, this]
theorem firstB_some {L : List Int} {k : Nat} {x : Int} (h : ∀ j x, j < k → L[j]? = some x → badN x = false) (hx : L[k]? = some x) (hd : badN x = true) : firstB L = (k : Int) := by
  obtain ⟨hk, rfl⟩ := List.getElem?_eq_some_iff.1 hx
  have : L.findIdx? badN = some k := List.findIdx?_eq_some_iff_getElem.2 ⟨hk, hd, fun j hj => by
    have := h j _ hj (List.getElem?_eq_getElem (by omega))
    simp [this]⟩
  rw [firstB, this]
theorem firstB_any (L : List Int) : decide (0 ≤ firstB L) = L.any badN := by
  unfold firstB
  cases h : L.findIdx? badN with
  | none =>
    have := List.findIdx?_eq_none_iff.1 h
    rw [Bool.eq_iff_iff]
    simp only [decide_eq_true_eq, List.any_eq_true]
    constructor
    · intro e; simp at e
    · rintro ⟨x, hx, hb⟩; rw [this x hx] at hb; cases hb
  | some i =>
    obtain ⟨hi, hb, _⟩ := List.findIdx?_eq_some_iff_getElem.1 h
    rw [Bool.eq_iff_iff]
    simp only [decide_eq_true_eq, List.any_eq_true]
    exact ⟨fun _ => ⟨_, List.getElem_mem hi, hb⟩, fun _ => by simp⟩
set_option maxHeartbeats 4000000 in
set_option maxRecDepth 100000 in
theorem badN_calls (x : Int) (w : World) : Calls Tryz.prog 126 #[.int .i64 x] w fun e w' => e = .returned (.bool (badN x)) ∧ w' = w := by
  unfold badN
  by_cases h1 : x < 0
  · go_enter Tryz.func126, Tryz.ntmps126
    go_wp2_with fail
    go_returns
    exact ⟨by rw [decide_eq_true h1]; rfl, rfl⟩
  · go_enter Tryz.func126, Tryz.ntmps126
    go_wp2_with fail
    go_returns
    exact ⟨by rw [decide_eq_false (by omega : ¬ x < 0)]; rfl, rfl⟩
set_option maxHeartbeats 4000000 in
set_option maxRecDepth 100000 in
theorem IndexB_calls (g off n c : Nat) (L : List Int) (w : World) (hL : ∀ j x, L[j]? = some x → w.cell? ⟨g, off + j, none⟩ = some (.int .i64 x)) (hn : L.length = n) (hn2 : n ≤ 1000000) :
    Calls Tryz.prog 182 #[.slice (some ⟨g, off, none⟩) n c, .func (.func 126) #[] #[]] w fun e w' => e = .returned (.int .i64 (firstB L)) ∧ w' = w := by
  have HL := Lib.hid hL
  have HN := Lib.hid hn
  obtain ⟨r, hr⟩ : ∃ r, r = firstB L := ⟨_, rfl⟩
  have HR := Lib.hid hr
  rw [← hr]
  clear hL hn hr
  go_enter Tryz.func182, Tryz.ntmps182
  go_wp2_with fail
  go_loopw [8] (fun iv wr => ∃ (k : Nat), k ≤ n ∧ iv = .int .i64 k ∧ Hid (∀ j x, j < k → L[j]? = some x → badN x = false) ∧ wr = w) (fun iv _ => n - (intOf iv).toNat)
  case atStart => exact ⟨0, by omega, rfl, Lib.hid (fun j l hj => by omega), rfl⟩
  case round =>
    obtain ⟨k, hk, rfl, hno, hw⟩ := hrel
    subst hw
    by_cases hlt : k < n
    · obtain ⟨x, hh⟩ : ∃ x, L[k]? = some x := ⟨_, List.getElem?_eq_getElem (by rw [HN.out]; exact hlt)⟩
      have hc := HL.out k x hh
      have HH := Lib.hid hh
      obtain ⟨d, hd⟩ : ∃ d, d = badN x := ⟨_, rfl⟩
      have HD := Lib.hid hd
      have cc : ∀ y, Calls Tryz.prog 126 #[.int .i64 x] y fun e w' => e = .returned (.bool d) ∧ w' = y := fun y => by rw [hd]; exact badN_calls x y
      clear hh hd
      go_wp2_with ((with_reducible show wpList _ _ _ (⟨some 15, _, _, _, _, _⟩ :: _) _ _); refine wpList_load1 rfl 3 (.tmp 14) rfl g (off + k) (by rfl) _ _ hc Tryz.underlying3 rfl ?_)
      refine (cc _).mono ?_
      rintro e w5 ⟨rfl, rfl⟩
      clear cc hc
      cases d with
      | true =>
        go_wp2_with fail
        go_returns
        rw [HR.out, firstB_some hno.out HH.out HD.out.symm]
        exact ⟨rfl, rfl⟩
      | false =>
        have hno5 : Hid (∀ j x, j < k + 1 → L[j]? = some x → badN x = false) := fun j x' hj hx => by
          by_cases hjk : j < k
          · exact hno.out j x' hjk hx
          · obtain rfl : j = k := by omega
            rw [HH.out] at hx
            obtain rfl := Option.some.inj hx
            exact HD.out.symm
        go_wp2_with fail
        go_roundw
        case rel => exact ⟨k + 1, by omega, by go_num, hno5, by first | rfl | trivial⟩
        case measure => simp [intOf]; omega
    · obtain rfl : k = n := by omega
      go_wp2_with fail
      go_returns
      rw [HR.out, firstB_none (fun j x hj hx => hno.out j x (by rw [← HN.out]; exact hj) hx)]
      exact ⟨rfl, rfl⟩
theorem ContainsB_calls (g off n c : Nat) (L : List Int) (w : World) (hL : ∀ j x, L[j]? = some x → w.cell? ⟨g, off + j, none⟩ = some (.int .i64 x)) (hn : L.length = n) (hn2 : n ≤ 1000000) :
    Calls Tryz.prog 125 #[.slice (some ⟨g, off, none⟩) n c, .func (.func 126) #[] #[]] w fun e w' => e = .returned (.bool (L.any badN)) ∧ w' = w := by
  rw [← firstB_any]
  have c1 := IndexB_calls g off n c L w hL hn hn2
  generalize firstB L = r at c1 ⊢
  clear hL hn hn2
  go_enter Tryz.func125, Tryz.ntmps125
  go_wp2_with fail
  refine c1.mono ?_
  rintro e w1 ⟨rfl, rfl⟩
  go_wp2_with fail
  go_returns
  exact ⟨rfl, rfl⟩
end Go.Proofs.YtjlpdbaknhbgdaaGreat
