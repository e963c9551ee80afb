/-
  A thing put into a writer.
-/
import Derived.Test.YtfmendgbmkclkaaWireFew
import Derived.Test.YtfmendgbmkclkaaWireW2
import Derived.Test.YtfmendgbmkclkaaWireRef
set_option linter.unusedSimpArgs false
set_option linter.unusedVariables false
namespace Go.Proofs.Ytfmendgbmkclkaa
open Go.RowKit

def putOk (x : Thing) : Bool :=
  if x.k.toNat % 4 = 0 then decide (0 ≤ x.n ∧ x.n ≤ 4611686018427387903) else if x.k.toNat % 4 = 1 then decide (x.s.length ≤ 65536) else true
def putV (x : Thing) : List UInt8 :=
  if x.k.toNat % 4 = 0 then numB x.n.toNat else if x.k.toNat % 4 = 1 then numB x.s.length ++ x.s else if x.k.toNat % 4 = 2 then x.h else [flagB x.b]
def putB (x : Thing) : List UInt8 := if putOk x then putV x else []
def putS (x : Thing) (bs : List UInt8) : List UInt8 := if putOk x then bs ++ putV x else bs

theorem box_thing (w : World) (x : Thing) : Blk (w.alloc (.cells x.cells.toArray 42)) w.heap.size x.cells.toArray 42 := Blk.new _ _ _
theorem thing_0 (x : Thing) : x.cells.toArray[0]? = some (bv x.k) := rfl
theorem thing_1 (x : Thing) : x.cells.toArray[1]? = some (.int .i64 x.n) := rfl
theorem thing_2 (x : Thing) : x.cells.toArray[2]? = some (.string (str x.s)) := rfl
theorem thing_35 (x : Thing) (h : x.h.length = 32) : x.cells.toArray[35]? = some (.bool x.b) := by
  have : x.cells[35]? = some (.bool x.b) := by
    show (x.h.map bv ++ [Value.bool x.b])[32]? = _
    rw [List.getElem?_append_right (by simp [h])]
    simp [h]
  simpa using this
theorem thing_3 (x : Thing) (h : x.h.length = 32) (w : World) (b o : Nat) (hr : w.rangeAt b o x.cells) : w.rangeAt b (o + 3) (x.h.map bv) := by
  intro j v hj
  have hlt : j < (x.h.map bv).length := (List.getElem?_eq_some_iff.1 hj).1
  have : x.cells[3 + j]? = some v := by
    rw [Nat.add_comm]
    show (x.h.map bv ++ [Value.bool x.b])[j]? = _
    rw [List.getElem?_append_left hlt]; exact hj
  have h2 := hr (3 + j) v this
  rw [← Nat.add_assoc] at h2
  exact h2
theorem blk_range {w : World} {b : Nat} {l : List Value} {t : TypeId} (h : Blk w b l.toArray t) : w.rangeAt b 0 l := by
  intro j v hj
  rw [Nat.zero_add]
  exact h.cell j v (by simpa using hj)
theorem Try.sizeHash' : (Try.prog.info? 40).map (·.size) = some 32 := by kernel_rfl

set_option maxHeartbeats 1000000 in
set_option maxRecDepth 100000 in
theorem put0Ok (base b : Nat) (bs : List UInt8) (bad : Bool) (x : Thing) (hx : x.ok) (w : World) (h : WriterIs base w b bs bad) (hs : base ≤ w.heap.size) (hl : bs.length ≤ 274877906944) (hk : x.k.toNat % 4 = 0) (h0 : 0 ≤ x.n) (h1 : x.n ≤ 4611686018427387903) :
    Calls Try.prog 20 #[.pointer (some ⟨b, 0, none⟩), .agg x.cells.toArray] w fun e w' => e = .returned (.tuple #[.string (str (putB x)), .bool (putOk x)]) ∧ WriterIs base w' b (putS x bs) (bad || !putOk x) ∧ WK base w w' := by
  have R1 : Hid (putOk x = true) := by show _ = _; simp [putOk, hk, h0, h1]
  have R2 : Hid (putB x = numB x.n.toNat) := by show _ = _; simp [putB, putV, R1.out, hk]
  have R3 : Hid (putS x bs = bs ++ (numB x.n.toNat)) := by show _ = _; simp [putS, putV, R1.out, hk]
  have hB := box_thing w x
  have hW := h.alloc (.cells x.cells.toArray 42)
  have hb0 : WK base w (w.alloc (.cells x.cells.toArray 42)) := (Keep.refl _ _ _).alloc hs _
  have hc0 := hB.cell 0 _ (thing_0 x)
  have hc1 := hB.cell 1 _ (thing_1 x)
  have hc2 := hB.cell 2 _ (thing_2 x)
  have hc35 := hB.cell 35 _ (thing_35 x hx.h1)
  have e0 : x.cells[0]? = some (.int .u8 (x.k.toNat : Int)) := rfl
  have e1 : x.cells[1]? = some (.int .i64 x.n) := rfl
  have e2 : x.cells[2]? = some (.string (str x.s)) := rfl
  have e35 : x.cells[35]? = some (.bool x.b) := by have := thing_35 x hx.h1; simpa using this
  have hr3 := thing_3 x hx.h1 _ _ _ (blk_range hB)
  have hki : (x.k.toNat : Int) % 4 = 0 := by omega
  have n1 := hx.n1
  have n2 := hx.n2
  have s1 := hx.s1
  unfold maxLen at s1
  have HX := Lib.hid hx
  clear hx hc0 hc1 hc2 hc35
  go_enter Try.func20, Try.ntmps20
  go_wp2_with fail
  refine (num_calls base b bs bad x.n _ hW (by simp; omega) (by omega) h0 h1).mono ?_
  rintro e w1 ⟨rfl, h1, b1⟩
  have hB1 := hB.typed b1.typed (by decide)
  have c1 := hB1.cell 1 _ (thing_1 x)
  have c2 := hB1.cell 2 _ (thing_2 x)
  have c35 := hB1.cell 35 _ (thing_35 x HX.out.h1)
  have r3 := thing_3 x HX.out.h1 _ _ _ (blk_range hB1)
  have hbb := hb0.trans b1
  have hsz : base ≤ w1.heap.size := Nat.le_trans hs hbb.size
  go_wp2_with fail
  refine (RefNum_calls x.n _ h0 (by assumption)).mono ?_
  rintro e w2 ⟨rfl, b2⟩
  have h2 := h1.below (B := 0) (w' := w2) (fun k _ hk => b2.block k hk)
  go_wp2
  go_returns
  rw [R1.out, R2.out, R3.out]
  exact ⟨rfl, by simpa [List.append_assoc] using h2, hbb.trans ⟨b2.mono hsz, typed_below b2⟩⟩
set_option maxHeartbeats 1000000 in
set_option maxRecDepth 100000 in
theorem put0NoA (base b : Nat) (bs : List UInt8) (bad : Bool) (x : Thing) (hx : x.ok) (w : World) (h : WriterIs base w b bs bad) (hs : base ≤ w.heap.size) (hl : bs.length ≤ 274877906944) (hk : x.k.toNat % 4 = 0) (h0 : x.n < 0) :
    Calls Try.prog 20 #[.pointer (some ⟨b, 0, none⟩), .agg x.cells.toArray] w fun e w' => e = .returned (.tuple #[.string (str (putB x)), .bool (putOk x)]) ∧ WriterIs base w' b (putS x bs) (bad || !putOk x) ∧ WK base w w' := by
  have R1 : Hid (putOk x = false) := by show _ = _; simp [putOk, hk, show ¬ 0 ≤ x.n from by omega]
  have R2 : Hid (putB x = []) := by show _ = _; simp [putB, putV, R1.out, hk]
  have R3 : Hid (putS x bs = bs) := by show _ = _; simp [putS, putV, R1.out, hk]
  have hB := box_thing w x
  have hW := h.alloc (.cells x.cells.toArray 42)
  have hb0 : WK base w (w.alloc (.cells x.cells.toArray 42)) := (Keep.refl _ _ _).alloc hs _
  have hc0 := hB.cell 0 _ (thing_0 x)
  have hc1 := hB.cell 1 _ (thing_1 x)
  have hc2 := hB.cell 2 _ (thing_2 x)
  have hc35 := hB.cell 35 _ (thing_35 x hx.h1)
  have e0 : x.cells[0]? = some (.int .u8 (x.k.toNat : Int)) := rfl
  have e1 : x.cells[1]? = some (.int .i64 x.n) := rfl
  have e2 : x.cells[2]? = some (.string (str x.s)) := rfl
  have e35 : x.cells[35]? = some (.bool x.b) := by have := thing_35 x hx.h1; simpa using this
  have hr3 := thing_3 x hx.h1 _ _ _ (blk_range hB)
  have hki : (x.k.toNat : Int) % 4 = 0 := by omega
  have n1 := hx.n1
  have n2 := hx.n2
  have s1 := hx.s1
  unfold maxLen at s1
  have HX := Lib.hid hx
  clear hx hc0 hc1 hc2 hc35
  go_enter Try.func20, Try.ntmps20
  go_wp2_with fail
  refine (numBad_calls base b bs bad x.n _ hW (.inl h0)).mono ?_
  rintro e w1 ⟨rfl, h1, b1⟩
  have hB1 := hB.typed b1.typed (by decide)
  have c1 := hB1.cell 1 _ (thing_1 x)
  have c2 := hB1.cell 2 _ (thing_2 x)
  have c35 := hB1.cell 35 _ (thing_35 x HX.out.h1)
  have r3 := thing_3 x HX.out.h1 _ _ _ (blk_range hB1)
  have hbb := hb0.trans b1
  have hsz : base ≤ w1.heap.size := Nat.le_trans hs hbb.size
  go_wp2
  go_returns
  rw [R1.out, R2.out, R3.out]
  exact ⟨rfl, by simpa using h1, hbb⟩
set_option maxHeartbeats 1000000 in
set_option maxRecDepth 100000 in
theorem put0NoB (base b : Nat) (bs : List UInt8) (bad : Bool) (x : Thing) (hx : x.ok) (w : World) (h : WriterIs base w b bs bad) (hs : base ≤ w.heap.size) (hl : bs.length ≤ 274877906944) (hk : x.k.toNat % 4 = 0) (h0 : 4611686018427387903 < x.n) :
    Calls Try.prog 20 #[.pointer (some ⟨b, 0, none⟩), .agg x.cells.toArray] w fun e w' => e = .returned (.tuple #[.string (str (putB x)), .bool (putOk x)]) ∧ WriterIs base w' b (putS x bs) (bad || !putOk x) ∧ WK base w w' := by
  have R1 : Hid (putOk x = false) := by show _ = _; simp [putOk, hk, show ¬ x.n ≤ 4611686018427387903 from by omega]
  have R2 : Hid (putB x = []) := by show _ = _; simp [putB, putV, R1.out, hk]
  have R3 : Hid (putS x bs = bs) := by show _ = _; simp [putS, putV, R1.out, hk]
  have hB := box_thing w x
  have hW := h.alloc (.cells x.cells.toArray 42)
  have hb0 : WK base w (w.alloc (.cells x.cells.toArray 42)) := (Keep.refl _ _ _).alloc hs _
  have hc0 := hB.cell 0 _ (thing_0 x)
  have hc1 := hB.cell 1 _ (thing_1 x)
  have hc2 := hB.cell 2 _ (thing_2 x)
  have hc35 := hB.cell 35 _ (thing_35 x hx.h1)
  have e0 : x.cells[0]? = some (.int .u8 (x.k.toNat : Int)) := rfl
  have e1 : x.cells[1]? = some (.int .i64 x.n) := rfl
  have e2 : x.cells[2]? = some (.string (str x.s)) := rfl
  have e35 : x.cells[35]? = some (.bool x.b) := by have := thing_35 x hx.h1; simpa using this
  have hr3 := thing_3 x hx.h1 _ _ _ (blk_range hB)
  have hki : (x.k.toNat : Int) % 4 = 0 := by omega
  have n1 := hx.n1
  have n2 := hx.n2
  have s1 := hx.s1
  unfold maxLen at s1
  have HX := Lib.hid hx
  clear hx hc0 hc1 hc2 hc35
  go_enter Try.func20, Try.ntmps20
  go_wp2_with fail
  refine (numBad_calls base b bs bad x.n _ hW (.inr h0)).mono ?_
  rintro e w1 ⟨rfl, h1, b1⟩
  have hB1 := hB.typed b1.typed (by decide)
  have c1 := hB1.cell 1 _ (thing_1 x)
  have c2 := hB1.cell 2 _ (thing_2 x)
  have c35 := hB1.cell 35 _ (thing_35 x HX.out.h1)
  have r3 := thing_3 x HX.out.h1 _ _ _ (blk_range hB1)
  have hbb := hb0.trans b1
  have hsz : base ≤ w1.heap.size := Nat.le_trans hs hbb.size
  go_wp2
  go_returns
  rw [R1.out, R2.out, R3.out]
  exact ⟨rfl, by simpa using h1, hbb⟩
set_option maxHeartbeats 1000000 in
set_option maxRecDepth 100000 in
theorem put1Ok (base b : Nat) (bs : List UInt8) (bad : Bool) (x : Thing) (hx : x.ok) (w : World) (h : WriterIs base w b bs bad) (hs : base ≤ w.heap.size) (hl : bs.length ≤ 274877906944) (hk : x.k.toNat % 4 = 1) (h0 : x.s.length ≤ 65536) :
    Calls Try.prog 20 #[.pointer (some ⟨b, 0, none⟩), .agg x.cells.toArray] w fun e w' => e = .returned (.tuple #[.string (str (putB x)), .bool (putOk x)]) ∧ WriterIs base w' b (putS x bs) (bad || !putOk x) ∧ WK base w w' := by
  have R1 : Hid (putOk x = true) := by show _ = _; simp [putOk, hk, h0]
  have R2 : Hid (putB x = numB x.s.length ++ x.s) := by show _ = _; simp [putB, putV, R1.out, hk]
  have R3 : Hid (putS x bs = bs ++ (numB x.s.length ++ x.s)) := by show _ = _; simp [putS, putV, R1.out, hk]
  have hB := box_thing w x
  have hW := h.alloc (.cells x.cells.toArray 42)
  have hb0 : WK base w (w.alloc (.cells x.cells.toArray 42)) := (Keep.refl _ _ _).alloc hs _
  have hc0 := hB.cell 0 _ (thing_0 x)
  have hc1 := hB.cell 1 _ (thing_1 x)
  have hc2 := hB.cell 2 _ (thing_2 x)
  have hc35 := hB.cell 35 _ (thing_35 x hx.h1)
  have e0 : x.cells[0]? = some (.int .u8 (x.k.toNat : Int)) := rfl
  have e1 : x.cells[1]? = some (.int .i64 x.n) := rfl
  have e2 : x.cells[2]? = some (.string (str x.s)) := rfl
  have e35 : x.cells[35]? = some (.bool x.b) := by have := thing_35 x hx.h1; simpa using this
  have hr3 := thing_3 x hx.h1 _ _ _ (blk_range hB)
  have hki : (x.k.toNat : Int) % 4 = 1 := by omega
  have n1 := hx.n1
  have n2 := hx.n2
  have s1 := hx.s1
  unfold maxLen at s1
  have HX := Lib.hid hx
  clear hx hc0 hc1 hc2 hc35
  go_enter Try.func20, Try.ntmps20
  go_wp2_with fail
  refine (textOk_calls base b bs bad x.s _ hW (by simp; omega) (by omega) h0).mono ?_
  rintro e w1 ⟨rfl, h1, b1⟩
  have hB1 := hB.typed b1.typed (by decide)
  have c1 := hB1.cell 1 _ (thing_1 x)
  have c2 := hB1.cell 2 _ (thing_2 x)
  have c35 := hB1.cell 35 _ (thing_35 x HX.out.h1)
  have r3 := thing_3 x HX.out.h1 _ _ _ (blk_range hB1)
  have hbb := hb0.trans b1
  have hsz : base ≤ w1.heap.size := Nat.le_trans hs hbb.size
  go_wp2_with fail
  refine (RefText_calls x.s _ (by omega)).mono ?_
  rintro e w2 ⟨rfl, b2⟩
  have h2 := h1.below (B := 0) (w' := w2) (fun k _ hk => b2.block k hk)
  go_wp2
  go_returns
  rw [R1.out, R2.out, R3.out]
  exact ⟨rfl, by simpa [List.append_assoc] using h2, hbb.trans ⟨b2.mono hsz, typed_below b2⟩⟩
set_option maxHeartbeats 1000000 in
set_option maxRecDepth 100000 in
theorem put1No (base b : Nat) (bs : List UInt8) (bad : Bool) (x : Thing) (hx : x.ok) (w : World) (h : WriterIs base w b bs bad) (hs : base ≤ w.heap.size) (hl : bs.length ≤ 274877906944) (hk : x.k.toNat % 4 = 1) (h0 : 65536 < x.s.length) :
    Calls Try.prog 20 #[.pointer (some ⟨b, 0, none⟩), .agg x.cells.toArray] w fun e w' => e = .returned (.tuple #[.string (str (putB x)), .bool (putOk x)]) ∧ WriterIs base w' b (putS x bs) (bad || !putOk x) ∧ WK base w w' := by
  have R1 : Hid (putOk x = false) := by show _ = _; simp [putOk, hk, show ¬ x.s.length ≤ 65536 from by omega]
  have R2 : Hid (putB x = []) := by show _ = _; simp [putB, putV, R1.out, hk]
  have R3 : Hid (putS x bs = bs) := by show _ = _; simp [putS, putV, R1.out, hk]
  have hB := box_thing w x
  have hW := h.alloc (.cells x.cells.toArray 42)
  have hb0 : WK base w (w.alloc (.cells x.cells.toArray 42)) := (Keep.refl _ _ _).alloc hs _
  have hc0 := hB.cell 0 _ (thing_0 x)
  have hc1 := hB.cell 1 _ (thing_1 x)
  have hc2 := hB.cell 2 _ (thing_2 x)
  have hc35 := hB.cell 35 _ (thing_35 x hx.h1)
  have e0 : x.cells[0]? = some (.int .u8 (x.k.toNat : Int)) := rfl
  have e1 : x.cells[1]? = some (.int .i64 x.n) := rfl
  have e2 : x.cells[2]? = some (.string (str x.s)) := rfl
  have e35 : x.cells[35]? = some (.bool x.b) := by have := thing_35 x hx.h1; simpa using this
  have hr3 := thing_3 x hx.h1 _ _ _ (blk_range hB)
  have hki : (x.k.toNat : Int) % 4 = 1 := by omega
  have n1 := hx.n1
  have n2 := hx.n2
  have s1 := hx.s1
  unfold maxLen at s1
  have HX := Lib.hid hx
  clear hx hc0 hc1 hc2 hc35
  go_enter Try.func20, Try.ntmps20
  go_wp2_with fail
  refine (textBad_calls base b bs bad x.s _ hW h0 (by unfold maxLen; omega)).mono ?_
  rintro e w1 ⟨rfl, h1, b1⟩
  have hB1 := hB.typed b1.typed (by decide)
  have c1 := hB1.cell 1 _ (thing_1 x)
  have c2 := hB1.cell 2 _ (thing_2 x)
  have c35 := hB1.cell 35 _ (thing_35 x HX.out.h1)
  have r3 := thing_3 x HX.out.h1 _ _ _ (blk_range hB1)
  have hbb := hb0.trans b1
  have hsz : base ≤ w1.heap.size := Nat.le_trans hs hbb.size
  go_wp2
  go_returns
  rw [R1.out, R2.out, R3.out]
  exact ⟨rfl, by simpa using h1, hbb⟩
set_option maxHeartbeats 1000000 in
set_option maxRecDepth 100000 in
theorem put2 (base b : Nat) (bs : List UInt8) (bad : Bool) (x : Thing) (hx : x.ok) (w : World) (h : WriterIs base w b bs bad) (hs : base ≤ w.heap.size) (hl : bs.length ≤ 274877906944) (hk : x.k.toNat % 4 = 2) :
    Calls Try.prog 20 #[.pointer (some ⟨b, 0, none⟩), .agg x.cells.toArray] w fun e w' => e = .returned (.tuple #[.string (str (putB x)), .bool (putOk x)]) ∧ WriterIs base w' b (putS x bs) (bad || !putOk x) ∧ WK base w w' := by
  have R1 : Hid (putOk x = true) := by show _ = _; simp [putOk, hk]
  have R2 : Hid (putB x = x.h) := by show _ = _; simp [putB, putV, R1.out, hk]
  have R3 : Hid (putS x bs = bs ++ (x.h)) := by show _ = _; simp [putS, putV, R1.out, hk]
  have hB := box_thing w x
  have hW := h.alloc (.cells x.cells.toArray 42)
  have hb0 : WK base w (w.alloc (.cells x.cells.toArray 42)) := (Keep.refl _ _ _).alloc hs _
  have hc0 := hB.cell 0 _ (thing_0 x)
  have hc1 := hB.cell 1 _ (thing_1 x)
  have hc2 := hB.cell 2 _ (thing_2 x)
  have hc35 := hB.cell 35 _ (thing_35 x hx.h1)
  have e0 : x.cells[0]? = some (.int .u8 (x.k.toNat : Int)) := rfl
  have e1 : x.cells[1]? = some (.int .i64 x.n) := rfl
  have e2 : x.cells[2]? = some (.string (str x.s)) := rfl
  have e35 : x.cells[35]? = some (.bool x.b) := by have := thing_35 x hx.h1; simpa using this
  have hr3 := thing_3 x hx.h1 _ _ _ (blk_range hB)
  have hki : (x.k.toNat : Int) % 4 = 2 := by omega
  have n1 := hx.n1
  have n2 := hx.n2
  have s1 := hx.s1
  unfold maxLen at s1
  have HX := Lib.hid hx
  clear hx hc0 hc1 hc2 hc35
  go_enter Try.func20, Try.ntmps20
  go_wp2_with ((with_reducible show wpList _ _ _ (⟨some 43, _, _, _, _, _⟩ :: _) _ _); refine wpList_load_mid rfl 40 (.tmp 42) rfl _ _ (by rfl) (x.h.map bv) _ hr3 Try.underlying40 rfl (by rw [List.length_map, HX.out.h1]; exact Try.sizeHash') ?_)
  refine (hash_calls base b bs x.h bad _ hW (by simp; omega) (by omega) HX.out.h1).mono ?_
  rintro e w1 ⟨rfl, h1, b1⟩
  have hB1 := hB.typed b1.typed (by decide)
  have c1 := hB1.cell 1 _ (thing_1 x)
  have c2 := hB1.cell 2 _ (thing_2 x)
  have c35 := hB1.cell 35 _ (thing_35 x HX.out.h1)
  have r3 := thing_3 x HX.out.h1 _ _ _ (blk_range hB1)
  have hbb := hb0.trans b1
  have hsz : base ≤ w1.heap.size := Nat.le_trans hs hbb.size
  go_wp2_with ((with_reducible show wpList _ _ _ (⟨some 46, _, _, _, _, _⟩ :: _) _ _); refine wpList_load_mid rfl 40 (.tmp 45) rfl _ _ (by rfl) (x.h.map bv) _ r3 Try.underlying40 rfl (by rw [List.length_map, HX.out.h1]; exact Try.sizeHash') ?_)
  refine (RefHash_calls x.h _ HX.out.h1).mono ?_
  rintro e w2 ⟨rfl, b2⟩
  have h2 := h1.below (B := 0) (w' := w2) (fun k _ hk => b2.block k hk)
  go_wp2
  go_returns
  rw [R1.out, R2.out, R3.out]
  exact ⟨rfl, by simpa [List.append_assoc] using h2, hbb.trans ⟨b2.mono hsz, typed_below b2⟩⟩
set_option maxHeartbeats 1000000 in
set_option maxRecDepth 100000 in
theorem put3 (base b : Nat) (bs : List UInt8) (bad : Bool) (x : Thing) (hx : x.ok) (w : World) (h : WriterIs base w b bs bad) (hs : base ≤ w.heap.size) (hl : bs.length ≤ 274877906944) (hk : x.k.toNat % 4 = 3) :
    Calls Try.prog 20 #[.pointer (some ⟨b, 0, none⟩), .agg x.cells.toArray] w fun e w' => e = .returned (.tuple #[.string (str (putB x)), .bool (putOk x)]) ∧ WriterIs base w' b (putS x bs) (bad || !putOk x) ∧ WK base w w' := by
  have R1 : Hid (putOk x = true) := by show _ = _; simp [putOk, hk]
  have R2 : Hid (putB x = [flagB x.b]) := by show _ = _; simp [putB, putV, R1.out, hk]
  have R3 : Hid (putS x bs = bs ++ ([flagB x.b])) := by show _ = _; simp [putS, putV, R1.out, hk]
  have hB := box_thing w x
  have hW := h.alloc (.cells x.cells.toArray 42)
  have hb0 : WK base w (w.alloc (.cells x.cells.toArray 42)) := (Keep.refl _ _ _).alloc hs _
  have hc0 := hB.cell 0 _ (thing_0 x)
  have hc1 := hB.cell 1 _ (thing_1 x)
  have hc2 := hB.cell 2 _ (thing_2 x)
  have hc35 := hB.cell 35 _ (thing_35 x hx.h1)
  have e0 : x.cells[0]? = some (.int .u8 (x.k.toNat : Int)) := rfl
  have e1 : x.cells[1]? = some (.int .i64 x.n) := rfl
  have e2 : x.cells[2]? = some (.string (str x.s)) := rfl
  have e35 : x.cells[35]? = some (.bool x.b) := by have := thing_35 x hx.h1; simpa using this
  have hr3 := thing_3 x hx.h1 _ _ _ (blk_range hB)
  have hki : (x.k.toNat : Int) % 4 = 3 := by omega
  have n1 := hx.n1
  have n2 := hx.n2
  have s1 := hx.s1
  unfold maxLen at s1
  have HX := Lib.hid hx
  clear hx hc0 hc1 hc2 hc35
  go_enter Try.func20, Try.ntmps20
  go_wp2_with fail
  refine (flag_calls base b bs bad x.b _ hW (by simp; omega) (by omega)).mono ?_
  rintro e w1 ⟨rfl, h1, b1⟩
  have hB1 := hB.typed b1.typed (by decide)
  have c1 := hB1.cell 1 _ (thing_1 x)
  have c2 := hB1.cell 2 _ (thing_2 x)
  have c35 := hB1.cell 35 _ (thing_35 x HX.out.h1)
  have r3 := thing_3 x HX.out.h1 _ _ _ (blk_range hB1)
  have hbb := hb0.trans b1
  have hsz : base ≤ w1.heap.size := Nat.le_trans hs hbb.size
  go_wp2_with fail
  refine (RefFlag_calls x.b _).mono ?_
  rintro e w2 ⟨rfl, rfl⟩
  go_wp2
  go_returns
  rw [R1.out, R2.out, R3.out]
  exact ⟨rfl, by simpa [List.append_assoc] using h1, hbb⟩

theorem put_calls (base b : Nat) (bs : List UInt8) (bad : Bool) (x : Thing) (hx : x.ok) (w : World) (h : WriterIs base w b bs bad) (hs : base ≤ w.heap.size) (hl : bs.length ≤ 274877906944) :
    Calls Try.prog 20 #[.pointer (some ⟨b, 0, none⟩), .agg x.cells.toArray] w fun e w' => e = .returned (.tuple #[.string (str (putB x)), .bool (putOk x)]) ∧ WriterIs base w' b (putS x bs) (bad || !putOk x) ∧ WK base w w' := by
  have h4 : x.k.toNat % 4 = 0 ∨ x.k.toNat % 4 = 1 ∨ x.k.toNat % 4 = 2 ∨ x.k.toNat % 4 = 3 := by omega
  rcases h4 with h4 | h4 | h4 | h4
  · by_cases a : x.n < 0
    · exact put0NoA base b bs bad x hx w h hs hl h4 a
    by_cases c : 4611686018427387903 < x.n
    · exact put0NoB base b bs bad x hx w h hs hl h4 c
    · exact put0Ok base b bs bad x hx w h hs hl h4 (by omega) (by omega)
  · by_cases a : 65536 < x.s.length
    · exact put1No base b bs bad x hx w h hs hl h4 a
    · exact put1Ok base b bs bad x hx w h hs hl h4 (by omega)
  · exact put2 base b bs bad x hx w h hs hl h4
  · exact put3 base b bs bad x hx w h hs hl h4
end Go.Proofs.Ytfmendgbmkclkaa
