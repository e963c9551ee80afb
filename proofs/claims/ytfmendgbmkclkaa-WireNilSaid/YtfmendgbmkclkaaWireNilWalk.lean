/-
  WireNil: the walk.
-/
import Derived.Test.YtfmendgbmkclkaaWirePutNil
import Derived.Test.YtfmendgbmkclkaaHashEq
import Derived.Test.YtfmendgbmkclkaaWireBackWalk
set_option linter.unusedSimpArgs false
set_option linter.unusedVariables false
namespace Go.Proofs.Ytfmendgbmkclkaa
open Go.RowKit Go.ChangeShapes Go.WideShapes

set_option maxRecDepth 100000 in
set_option maxHeartbeats 1000000 in
theorem nil_no (x : Thing) (hx : x.ok) (hl : 200000 < x.s.length) (n : Int) (w : World) : Calls Try.prog 10 #[.agg x.cells.toArray, .int .i64 n] w fun e w' => e = .returned (.bool true) ∧ Below w.heap.size w w' := by
  have hB := box_thing w x
  have hc2 := hB.cell 2 _ (thing_2 x)
  have hb0 : Below w.heap.size w (w.alloc (.cells x.cells.toArray 42)) := (Below.refl _ w).alloc (Nat.le_refl _) _
  have s1 := hx.s1
  unfold maxLen at s1
  have e2 : x.cells[2]? = some (.string (str x.s)) := rfl
  clear hx
  go_enter Try.func10, Try.ntmps10
  go_wp2_with fail
  refine (awake_calls _).mono ?_
  rintro e w1 ⟨rfl, b1⟩
  go_wp2
  go_returns
  exact ⟨rfl, hb0.trans (b1.mono hb0.size)⟩

theorem heqZ (w : World) : (Op.equalIn 10000 40 (.agg ((List.replicate 32 (0 : UInt8)).map bv).toArray) (.agg ((List.replicate 32 (0 : UInt8)).map bv).toArray)).run Try.prog w = .ok true w := by
  rw [run_eq_hash w _ _ (by simp) (by simp)]; simp

set_option maxRecDepth 100000 in
set_option maxHeartbeats 1000000 in
theorem nil_yes (x : Thing) (hx : x.ok) (hl : x.s.length ≤ 200000) (n : Int) (w : World) : Calls Try.prog 10 #[.agg x.cells.toArray, .int .i64 n] w fun e w' => e = .returned (.bool true) ∧ Below w.heap.size w w' := by
  have hB := box_thing w x
  have hc2 := hB.cell 2 _ (thing_2 x)
  have hb0 : Below w.heap.size w (w.alloc (.cells x.cells.toArray 42)) := (Below.refl _ w).alloc (Nat.le_refl _) _
  have s1 := hx.s1
  unfold maxLen at s1
  have e2 : x.cells[2]? = some (.string (str x.s)) := rfl
  have HX := Lib.hid hx
  have HB := Lib.hid hB
  clear hx hB
  go_enter Try.func10, Try.ntmps10
  go_wp2_with ((with_reducible show wpList _ _ _ (⟨some 15, _, _, _, _, _⟩ :: _) _ _); refine wpList_loadBlk rfl 42 (.tmp 2) rfl w.heap.size (by rfl) _ _ _ HB.out Try.underlying42 rfl ((thing_size x HX.out.h1) ▸ Try.sizeThing) ?_)
  refine (putNil_calls x HX.out _).mono ?_
  rintro e w1 ⟨⟨v, rfl⟩, b1⟩
  have hb1 := hb0.trans (b1.mono hb0.size)
  clear hc2
  go_wp2_with fail
  refine (endNil_calls _).mono ?_
  rintro e w2 ⟨rfl, rfl⟩
  go_wp2_with fail
  refine (failNil_calls 5 _).mono ?_
  rintro e w2 ⟨rfl, rfl⟩
  go_wp2_with fail
  refine (awake_calls _).mono ?_
  rintro e w2 ⟨rfl, b2⟩
  have hb2 := hb1.trans (b2.mono hb1.size)
  go_wp2_with fail
  refine (rnumNil_calls n _).mono ?_
  rintro e w3 ⟨rfl, rfl⟩
  go_wp2_with fail
  refine (rtextNil_calls n _).mono ?_
  rintro e w3 ⟨rfl, rfl⟩
  go_wp2_with fail
  refine (rhashNil_calls _).mono ?_
  rintro e w3 ⟨rfl, b3⟩
  have hb3 := hb2.trans (b3.mono hb2.size)
  have hz : (Op.equalIn 10000 40 (.agg #[bv 0, bv 0, bv 0, bv 0, bv 0, bv 0, bv 0, bv 0, bv 0, bv 0, bv 0, bv 0, bv 0, bv 0, bv 0, bv 0, bv 0, bv 0, bv 0, bv 0, bv 0, bv 0, bv 0, bv 0, bv 0, bv 0, bv 0, bv 0, bv 0, bv 0, bv 0, bv 0]) (.agg #[.int .u8 0, .int .u8 0, .int .u8 0, .int .u8 0, .int .u8 0, .int .u8 0, .int .u8 0, .int .u8 0, .int .u8 0, .int .u8 0, .int .u8 0, .int .u8 0, .int .u8 0, .int .u8 0, .int .u8 0, .int .u8 0, .int .u8 0, .int .u8 0, .int .u8 0, .int .u8 0, .int .u8 0, .int .u8 0, .int .u8 0, .int .u8 0, .int .u8 0, .int .u8 0, .int .u8 0, .int .u8 0, .int .u8 0, .int .u8 0, .int .u8 0, .int .u8 0])).run Try.prog w3 = .ok true w3 := heqZ w3
  go_wp2_with fail
  refine (rflagNil_calls _).mono ?_
  rintro e w4 ⟨rfl, rfl⟩
  go_wp2_with fail
  refine (errNil_calls _).mono ?_
  rintro e w4 ⟨rfl, rfl⟩
  go_wp2_with fail
  refine (rendNil_calls _).mono ?_
  rintro e w4 ⟨rfl, rfl⟩
  go_wp2
  go_returns
  exact ⟨rfl, hb3⟩

theorem walkWireNil {H : Type} {enc : TypeId × Value → H} (v : Value) {d : DataW H} {p : List MemPlace} {r : Reach} {b0 : Nat} {w : World} (hv : Value.okWide Try.prog w r b0 42 v)
    (h : DataW.Trod enc Try.prog w 0 (fun _ => true) true 42 v d p) (n : Int) (wn : (Lit.int .i64 n).wf = true) :
    Calls Try.prog 10 #[v, .int .i64 n] w fun e w' => e = .returned (.bool true) ∧ Below w.heap.size w w' := by
  obtain ⟨cs, rfl, _⟩ := okWide_struct Try.underlying42 hv
  obtain ⟨fuel, hf⟩ := h
  obtain ⟨x, hx, hc⟩ := trod_thing hf
  have hcs : cs = x.cells.toArray := by
    have : cs.toList = x.cells := by simpa [Value.cells] using hc
    rw [← this]
  subst hcs
  by_cases hl : x.s.length ≤ 200000
  · exact nil_yes x hx hl n w
  · exact nil_no x hx (by omega) n w
end Go.Proofs.Ytfmendgbmkclkaa
