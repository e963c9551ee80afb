/-
  'put' into a nil writer: nothing, and what the document says.
-/
import Derived.Test.YtfmendgbmkclkaaWireNilC
import Derived.Test.YtfmendgbmkclkaaWirePut
set_option linter.unusedSimpArgs false
set_option linter.unusedVariables false
namespace Go.Proofs.Ytfmendgbmkclkaa
open Go.RowKit

set_option maxHeartbeats 1000000 in
set_option maxRecDepth 100000 in
theorem putN0Ok (x : Thing) (hx : x.ok) (w : World) (hk : x.k.toNat % 4 = 0) (h0 : 0 ≤ x.n) (h1 : x.n ≤ 4611686018427387903) :
    Calls Try.prog 20 #[.pointer none, .agg x.cells.toArray] w fun e w' => (∃ v, e = .returned v) ∧ Below w.heap.size w w' := by
  have hB := box_thing w x
  have hb0 : Below w.heap.size w (w.alloc (.cells x.cells.toArray 42)) := (Below.refl _ w).alloc (Nat.le_refl _) _
  have hc0 := hB.cell 0 _ (thing_0 x)
  have hc1 := hB.cell 1 _ (thing_1 x)
  have hc2 := hB.cell 2 _ (thing_2 x)
  have hc35 := hB.cell 35 _ (thing_35 x hx.h1)
  have e0 : x.cells[0]? = some (.int .u8 (x.k.toNat : Int)) := rfl
  have e1 : x.cells[1]? = some (.int .i64 x.n) := rfl
  have e2 : x.cells[2]? = some (.string (str x.s)) := rfl
  have e35 : x.cells[35]? = some (.bool x.b) := by have := thing_35 x hx.h1; simpa using this
  have hr3 := thing_3 x hx.h1 _ _ _ (blk_range hB)
  have hki : (x.k.toNat : Int) % 4 = 0 := by omega
  have n1 := hx.n1
  have n2 := hx.n2
  have s1 := hx.s1
  unfold maxLen at s1
  have HX := Lib.hid hx
  clear hx hc0 hc1 hc2 hc35
  go_enter Try.func20, Try.ntmps20
  go_wp2_with fail
  refine (numNil_calls x.n _).mono ?_
  rintro e w1 ⟨rfl, rfl⟩
  have hbb := hb0
  go_wp2_with fail
  refine (RefNum_calls x.n _ h0 (by assumption)).mono ?_
  rintro e w2 ⟨rfl, b2⟩
  have hbb2 := hbb.trans (b2.mono hbb.size)
  go_wp2
  go_returns
  exact ⟨⟨_, rfl⟩, hbb2⟩
set_option maxHeartbeats 1000000 in
set_option maxRecDepth 100000 in
theorem putN0NoA (x : Thing) (hx : x.ok) (w : World) (hk : x.k.toNat % 4 = 0) (h0 : x.n < 0) :
    Calls Try.prog 20 #[.pointer none, .agg x.cells.toArray] w fun e w' => (∃ v, e = .returned v) ∧ Below w.heap.size w w' := by
  have hB := box_thing w x
  have hb0 : Below w.heap.size w (w.alloc (.cells x.cells.toArray 42)) := (Below.refl _ w).alloc (Nat.le_refl _) _
  have hc0 := hB.cell 0 _ (thing_0 x)
  have hc1 := hB.cell 1 _ (thing_1 x)
  have hc2 := hB.cell 2 _ (thing_2 x)
  have hc35 := hB.cell 35 _ (thing_35 x hx.h1)
  have e0 : x.cells[0]? = some (.int .u8 (x.k.toNat : Int)) := rfl
  have e1 : x.cells[1]? = some (.int .i64 x.n) := rfl
  have e2 : x.cells[2]? = some (.string (str x.s)) := rfl
  have e35 : x.cells[35]? = some (.bool x.b) := by have := thing_35 x hx.h1; simpa using this
  have hr3 := thing_3 x hx.h1 _ _ _ (blk_range hB)
  have hki : (x.k.toNat : Int) % 4 = 0 := by omega
  have n1 := hx.n1
  have n2 := hx.n2
  have s1 := hx.s1
  unfold maxLen at s1
  have HX := Lib.hid hx
  clear hx hc0 hc1 hc2 hc35
  go_enter Try.func20, Try.ntmps20
  go_wp2_with fail
  refine (numNil_calls x.n _).mono ?_
  rintro e w1 ⟨rfl, rfl⟩
  have hbb := hb0
  go_wp2
  go_returns
  exact ⟨⟨_, rfl⟩, hbb⟩
set_option maxHeartbeats 1000000 in
set_option maxRecDepth 100000 in
theorem putN0NoB (x : Thing) (hx : x.ok) (w : World) (hk : x.k.toNat % 4 = 0) (h0 : 4611686018427387903 < x.n) :
    Calls Try.prog 20 #[.pointer none, .agg x.cells.toArray] w fun e w' => (∃ v, e = .returned v) ∧ Below w.heap.size w w' := by
  have hB := box_thing w x
  have hb0 : Below w.heap.size w (w.alloc (.cells x.cells.toArray 42)) := (Below.refl _ w).alloc (Nat.le_refl _) _
  have hc0 := hB.cell 0 _ (thing_0 x)
  have hc1 := hB.cell 1 _ (thing_1 x)
  have hc2 := hB.cell 2 _ (thing_2 x)
  have hc35 := hB.cell 35 _ (thing_35 x hx.h1)
  have e0 : x.cells[0]? = some (.int .u8 (x.k.toNat : Int)) := rfl
  have e1 : x.cells[1]? = some (.int .i64 x.n) := rfl
  have e2 : x.cells[2]? = some (.string (str x.s)) := rfl
  have e35 : x.cells[35]? = some (.bool x.b) := by have := thing_35 x hx.h1; simpa using this
  have hr3 := thing_3 x hx.h1 _ _ _ (blk_range hB)
  have hki : (x.k.toNat : Int) % 4 = 0 := by omega
  have n1 := hx.n1
  have n2 := hx.n2
  have s1 := hx.s1
  unfold maxLen at s1
  have HX := Lib.hid hx
  clear hx hc0 hc1 hc2 hc35
  go_enter Try.func20, Try.ntmps20
  go_wp2_with fail
  refine (numNil_calls x.n _).mono ?_
  rintro e w1 ⟨rfl, rfl⟩
  have hbb := hb0
  go_wp2
  go_returns
  exact ⟨⟨_, rfl⟩, hbb⟩
set_option maxHeartbeats 1000000 in
set_option maxRecDepth 100000 in
theorem putN1Ok (x : Thing) (hx : x.ok) (w : World) (hk : x.k.toNat % 4 = 1) (h0 : x.s.length ≤ 65536) :
    Calls Try.prog 20 #[.pointer none, .agg x.cells.toArray] w fun e w' => (∃ v, e = .returned v) ∧ Below w.heap.size w w' := by
  have hB := box_thing w x
  have hb0 : Below w.heap.size w (w.alloc (.cells x.cells.toArray 42)) := (Below.refl _ w).alloc (Nat.le_refl _) _
  have hc0 := hB.cell 0 _ (thing_0 x)
  have hc1 := hB.cell 1 _ (thing_1 x)
  have hc2 := hB.cell 2 _ (thing_2 x)
  have hc35 := hB.cell 35 _ (thing_35 x hx.h1)
  have e0 : x.cells[0]? = some (.int .u8 (x.k.toNat : Int)) := rfl
  have e1 : x.cells[1]? = some (.int .i64 x.n) := rfl
  have e2 : x.cells[2]? = some (.string (str x.s)) := rfl
  have e35 : x.cells[35]? = some (.bool x.b) := by have := thing_35 x hx.h1; simpa using this
  have hr3 := thing_3 x hx.h1 _ _ _ (blk_range hB)
  have hki : (x.k.toNat : Int) % 4 = 1 := by omega
  have n1 := hx.n1
  have n2 := hx.n2
  have s1 := hx.s1
  unfold maxLen at s1
  have HX := Lib.hid hx
  clear hx hc0 hc1 hc2 hc35
  go_enter Try.func20, Try.ntmps20
  go_wp2_with fail
  refine (textNil_calls x.s _).mono ?_
  rintro e w1 ⟨rfl, rfl⟩
  have hbb := hb0
  go_wp2_with fail
  refine (RefText_calls x.s _ (by omega)).mono ?_
  rintro e w2 ⟨rfl, b2⟩
  have hbb2 := hbb.trans (b2.mono hbb.size)
  go_wp2
  go_returns
  exact ⟨⟨_, rfl⟩, hbb2⟩
set_option maxHeartbeats 1000000 in
set_option maxRecDepth 100000 in
theorem putN1No (x : Thing) (hx : x.ok) (w : World) (hk : x.k.toNat % 4 = 1) (h0 : 65536 < x.s.length) :
    Calls Try.prog 20 #[.pointer none, .agg x.cells.toArray] w fun e w' => (∃ v, e = .returned v) ∧ Below w.heap.size w w' := by
  have hB := box_thing w x
  have hb0 : Below w.heap.size w (w.alloc (.cells x.cells.toArray 42)) := (Below.refl _ w).alloc (Nat.le_refl _) _
  have hc0 := hB.cell 0 _ (thing_0 x)
  have hc1 := hB.cell 1 _ (thing_1 x)
  have hc2 := hB.cell 2 _ (thing_2 x)
  have hc35 := hB.cell 35 _ (thing_35 x hx.h1)
  have e0 : x.cells[0]? = some (.int .u8 (x.k.toNat : Int)) := rfl
  have e1 : x.cells[1]? = some (.int .i64 x.n) := rfl
  have e2 : x.cells[2]? = some (.string (str x.s)) := rfl
  have e35 : x.cells[35]? = some (.bool x.b) := by have := thing_35 x hx.h1; simpa using this
  have hr3 := thing_3 x hx.h1 _ _ _ (blk_range hB)
  have hki : (x.k.toNat : Int) % 4 = 1 := by omega
  have n1 := hx.n1
  have n2 := hx.n2
  have s1 := hx.s1
  unfold maxLen at s1
  have HX := Lib.hid hx
  clear hx hc0 hc1 hc2 hc35
  go_enter Try.func20, Try.ntmps20
  go_wp2_with fail
  refine (textNil_calls x.s _).mono ?_
  rintro e w1 ⟨rfl, rfl⟩
  have hbb := hb0
  go_wp2
  go_returns
  exact ⟨⟨_, rfl⟩, hbb⟩
set_option maxHeartbeats 1000000 in
set_option maxRecDepth 100000 in
theorem putN2 (x : Thing) (hx : x.ok) (w : World) (hk : x.k.toNat % 4 = 2) :
    Calls Try.prog 20 #[.pointer none, .agg x.cells.toArray] w fun e w' => (∃ v, e = .returned v) ∧ Below w.heap.size w w' := by
  have hB := box_thing w x
  have hb0 : Below w.heap.size w (w.alloc (.cells x.cells.toArray 42)) := (Below.refl _ w).alloc (Nat.le_refl _) _
  have hc0 := hB.cell 0 _ (thing_0 x)
  have hc1 := hB.cell 1 _ (thing_1 x)
  have hc2 := hB.cell 2 _ (thing_2 x)
  have hc35 := hB.cell 35 _ (thing_35 x hx.h1)
  have e0 : x.cells[0]? = some (.int .u8 (x.k.toNat : Int)) := rfl
  have e1 : x.cells[1]? = some (.int .i64 x.n) := rfl
  have e2 : x.cells[2]? = some (.string (str x.s)) := rfl
  have e35 : x.cells[35]? = some (.bool x.b) := by have := thing_35 x hx.h1; simpa using this
  have hr3 := thing_3 x hx.h1 _ _ _ (blk_range hB)
  have hki : (x.k.toNat : Int) % 4 = 2 := by omega
  have n1 := hx.n1
  have n2 := hx.n2
  have s1 := hx.s1
  unfold maxLen at s1
  have HX := Lib.hid hx
  clear hx hc0 hc1 hc2 hc35
  go_enter Try.func20, Try.ntmps20
  go_wp2_with ((with_reducible show wpList _ _ _ (⟨some 43, _, _, _, _, _⟩ :: _) _ _); refine wpList_load_mid rfl 40 (.tmp 42) rfl _ _ (by rfl) (x.h.map bv) _ hr3 Try.underlying40 rfl (by rw [List.length_map, HX.out.h1]; exact Try.sizeHash') ?_)
  refine (hashNil_calls x.h _).mono ?_
  rintro e w1 ⟨rfl, b1⟩
  have hB1 := hB.below b1 (by simp)
  have c1 := hB1.cell 1 _ (thing_1 x)
  have r3 := thing_3 x HX.out.h1 _ _ _ (blk_range hB1)
  have hbb := hb0.trans (b1.mono hb0.size)
  go_wp2_with ((with_reducible show wpList _ _ _ (⟨some 46, _, _, _, _, _⟩ :: _) _ _); refine wpList_load_mid rfl 40 (.tmp 45) rfl _ _ (by rfl) (x.h.map bv) _ r3 Try.underlying40 rfl (by rw [List.length_map, HX.out.h1]; exact Try.sizeHash') ?_)
  refine (RefHash_calls x.h _ HX.out.h1).mono ?_
  rintro e w2 ⟨rfl, b2⟩
  have hbb2 := hbb.trans (b2.mono hbb.size)
  go_wp2
  go_returns
  exact ⟨⟨_, rfl⟩, hbb2⟩
set_option maxHeartbeats 1000000 in
set_option maxRecDepth 100000 in
theorem putN3 (x : Thing) (hx : x.ok) (w : World) (hk : x.k.toNat % 4 = 3) :
    Calls Try.prog 20 #[.pointer none, .agg x.cells.toArray] w fun e w' => (∃ v, e = .returned v) ∧ Below w.heap.size w w' := by
  have hB := box_thing w x
  have hb0 : Below w.heap.size w (w.alloc (.cells x.cells.toArray 42)) := (Below.refl _ w).alloc (Nat.le_refl _) _
  have hc0 := hB.cell 0 _ (thing_0 x)
  have hc1 := hB.cell 1 _ (thing_1 x)
  have hc2 := hB.cell 2 _ (thing_2 x)
  have hc35 := hB.cell 35 _ (thing_35 x hx.h1)
  have e0 : x.cells[0]? = some (.int .u8 (x.k.toNat : Int)) := rfl
  have e1 : x.cells[1]? = some (.int .i64 x.n) := rfl
  have e2 : x.cells[2]? = some (.string (str x.s)) := rfl
  have e35 : x.cells[35]? = some (.bool x.b) := by have := thing_35 x hx.h1; simpa using this
  have hr3 := thing_3 x hx.h1 _ _ _ (blk_range hB)
  have hki : (x.k.toNat : Int) % 4 = 3 := by omega
  have n1 := hx.n1
  have n2 := hx.n2
  have s1 := hx.s1
  unfold maxLen at s1
  have HX := Lib.hid hx
  clear hx hc0 hc1 hc2 hc35
  go_enter Try.func20, Try.ntmps20
  go_wp2_with fail
  refine (flagNil_calls x.b _).mono ?_
  rintro e w1 ⟨rfl, rfl⟩
  have hbb := hb0
  go_wp2_with fail
  refine (RefFlag_calls x.b _).mono ?_
  rintro e w2 ⟨rfl, rfl⟩
  go_wp2
  go_returns
  exact ⟨⟨_, rfl⟩, hbb⟩

theorem putNil_calls (x : Thing) (hx : x.ok) (w : World) :
    Calls Try.prog 20 #[.pointer none, .agg x.cells.toArray] w fun e w' => (∃ v, e = .returned v) ∧ Below w.heap.size w w' := by
  have h4 : x.k.toNat % 4 = 0 ∨ x.k.toNat % 4 = 1 ∨ x.k.toNat % 4 = 2 ∨ x.k.toNat % 4 = 3 := by omega
  rcases h4 with h4 | h4 | h4 | h4
  · by_cases a : x.n < 0
    · exact putN0NoA x hx w h4 a
    by_cases c : 4611686018427387903 < x.n
    · exact putN0NoB x hx w h4 c
    · exact putN0Ok x hx w h4 (by omega) (by omega)
  · by_cases a : 65536 < x.s.length
    · exact putN1No x hx w h4 a
    · exact putN1Ok x hx w h4 (by omega)
  · exact putN2 x hx w h4
  · exact putN3 x hx w h4
end Go.Proofs.Ytfmendgbmkclkaa
