/-
  book: New, Len, Name, Named, Knows.
-/
import Derived.Test.YtjlpdbaknhbgdaaBookClone
import Derived.Test.YtjlpdbaknhbgdaaBookFol
import Derived.WalkLawsBesides
import Derived.Outline
import Derived.Handy
import Derived.Deep.RegionHeld
import Derived.Laws.ResultCell
set_option linter.unusedSimpArgs false
set_option linter.unusedVariables false
namespace Go.Proofs.Ytjlpdbaknhbgdaa
open Go.RowKit

theorem ret_cellTmp {P : Program} {fn : Func} {R : Ending → World → Prop} {a : Act} {w : World} {p u : Tmp} {ty : TypeId} (hf : fn.results = #[.cell p ty, .tmp u]) (g : Nat) (t : TypeId) (cs : Array Value) (d : TypeDesc)
    (hp : a.tmps.getD p undef = .pointer (some ⟨g, 0, none⟩)) (hg : Blk w g cs t)
    (hu : P.underlying ty = some d) (hd : (match d with | .struct _ | .array _ _ => true | _ => false) = true) (hi : (P.info? ty).map (·.size) = some cs.size)
    (hdf : a.defers = []) (hR : R (.returned (.tuple #[.agg cs, a.tmps.getD u undef])) w) : bodyPost P fn R .ret a w := by
  refine bodyPost_ret (v := .tuple #[.agg cs, a.tmps.getD u undef]) ?_ hdf hR
  rw [results_cell_tmp hf, hp]
  simp [asAddr, run_loadVar_row w g t ty cs (0, 0) d hg hu hd hi, Result.andThen]
theorem Try.zeroHashV (w : World) : (zeroValue 26).run Try.prog w = .ok (.agg Z32) w := by kernel_rfl
theorem wpList_lookT {P : Program} {k : TypeId} {ok : List UInt8 → Prop} {enc : List UInt8 → Value} {w : World} {ops : Array Oper} {rest : List Oper} {o : Oper} {a : Act} {Q : Exit → Act → World → Prop} (hg : o.guard = none) (mk : MKey P k ok enc) (m x : Operand) (t e : TypeId) (ho : o.op = .lookup t m x true) (ht : P.underlying t = some (.map k e)) (z : Value) (hz : (zeroValue e).run P w = .ok z w) (b n : Nat) (look : List UInt8 → Option Value)
    (hm : a.eval m = .map (some b)) (h : MapIs ok enc w b n look) (y : List UInt8) (hy : ok y) (hx : a.eval x = enc y) (u : Value) (hu : (look y).getD z = u) (c : Bool) (hc : (look y).isSome = c) (hK : wpList P ops Q rest (a.put o.dst (.tuple #[u, .bool c])) w) : wpList P ops Q (o :: rest) a w := by
  refine wpList_plain hg fun K' hK' => ?_
  have hr := h.look mk ht hz y hy true
  subst hu hc
  unfold Oper.wp
  simp [execOp, ho, hm, hx, hr, Result.andThen]
  exact hK' _ _ hK
theorem outLook_get (O : List HsT) (h : HsT) (D : Bool) (hD : D = true ↔ h ∈ O) : (outLook O h).getD (.bool false) = .bool D := by
  unfold outLook
  by_cases e : h ∈ O
  · rw [if_pos e, hD.2 e]; rfl
  · rw [if_neg e]
    cases D with
    | false => rfl
    | true => exact absurd (hD.1 rfl) e
theorem BookIs.drew {A : Nat → Prop} {w : World} {base b sm nm dm : Nat} {fs : List FactT} {names : List UInt8 → Option Value} (h : BookIs A w base b sm nm dm fs names) : BookIs A w.drew base b sm nm dm fs names := h.below (below_drewN (Below.refl _ _) 1)
theorem BookIs.setNames {A A' : Nat → Prop} {w w' : World} {base b sm nm dm K : Nat} {fs : List FactT} {names names' : List UInt8 → Option Value} (h : BookIs A w base b sm nm dm fs names) (f : Frm A' (fun _ => False) (fun q => q = dm) w w') (hm : MapIs strOk strEnc w' dm K names') : BookIs A w' base b sm nm dm fs names' := by
  obtain ⟨⟨fv, h1, h2⟩, ⟨K, h3⟩, h4, ⟨L, h5⟩, h6, h7, h8⟩ := h
  exact ⟨⟨fv, h1.frm f id, h2.frm f id id⟩, ⟨K, h3.frm f h7.2.1⟩, h4.frm f id h7.2.2, ⟨_, hm⟩, h6, h7, h8⟩
/-- The names as values. -/
def NamesOk (names : List UInt8 → Option Value) : Prop := ∀ s v, names s = some v → ∃ h : HsT, h.length = 32 ∧ v = hashEnc h
theorem bv_zeros : (List.replicate 32 (0 : UInt8)).map bv = Z32.toList := by kernel_rfl
theorem enc_zeros : hashEnc (List.replicate 32 (0 : UInt8)) = .agg Z32 := by show Value.agg _ = _; rw [bv_zeros]
theorem NamesOk.val {names : List UInt8 → Option Value} (h : NamesOk names) (s : List UInt8) : ∃ l : HsT, l.length = 32 ∧ (names s).getD (.agg Z32) = hashEnc l ∧ (names s = none → l = List.replicate 32 0) := by
  cases hn : names s with
  | none => exact ⟨List.replicate 32 0, by simp, by show Value.agg _ = Value.agg _; rw [bv_zeros], fun _ => rfl⟩
  | some v =>
    obtain ⟨l, h1, h2⟩ := h s v hn
    exact ⟨l, h1, h2, fun h => by cases h⟩
set_option maxHeartbeats 8000000 in
set_option maxRecDepth 100000 in
theorem Len_calls {A : Nat → Prop} (base b sm nm dm : Nat) (fs : List FactT) (names : List UInt8 → Option Value) (w : World) (h : BookIs A w base b sm nm dm fs names) :
    Calls Try.prog 17 #[.pointer (some ⟨b, 0, none⟩)] w fun e w' => e = .returned (.int .i64 (fs.length : Nat)) ∧ w' = w := by
  obtain ⟨⟨fv, hk, cs, ho, -⟩, -⟩ := h
  obtain ⟨fao, fc, rfl⟩ := own_slice ho
  clear ho
  go_enter Try.func17, Try.ntmps17
  go_wp2_with (first | ((with_reducible show wpList _ _ _ (⟨some 8, _, _, _, _, _⟩ :: _) _ _); refine wpList_load1 rfl 62 (.tmp 7) rfl b 0 (by rfl) (.slice fao fs.length fc) _ (hk.cell 0 _ rfl) Try.underlying62 rfl ?_))
  go_returns
  exact ⟨rfl, rfl⟩
set_option maxHeartbeats 8000000 in
set_option maxRecDepth 100000 in
theorem LenNil_calls (w : World) :
    Calls Try.prog 17 #[.pointer none] w fun e w' => e = .returned (.int .i64 0) ∧ w' = w := by
  go_enter Try.func17, Try.ntmps17
  go_wp2
  go_returns
  exact ⟨rfl, rfl⟩
set_option maxHeartbeats 8000000 in
set_option maxRecDepth 100000 in
theorem BNew_calls (w : World) :
    Calls Try.prog 5 #[] w fun e w' => ∃ b sm nm dm, e = .returned (.pointer (some ⟨b, 0, none⟩)) ∧ BookIs (fun q => q < w.heap.size) w' w.heap.size b sm nm dm [] (fun _ => none) ∧ Below w.heap.size w w' := by
  obtain ⟨base, hbase⟩ : ∃ base, base = w.heap.size := ⟨_, rfl⟩
  rw [← hbase]
  have HBS : Hid (base = w.heap.size) := hbase
  go_enter Try.func5, Try.ntmps5
  go_wp2_with (first | ((with_reducible show wpList _ _ _ (⟨some 1, _, _, _, _, _⟩ :: _) _ _); refine wpList_makeM rfl 59 rfl strOk strEnc ?_; intro w1 s1 b1 m1; clear s1; have l1 := m1.lt) | ((with_reducible show wpList _ _ _ (⟨some 2, _, _, _, _, _⟩ :: _) _ _); refine wpList_makeM rfl 60 rfl hashOk hashEnc ?_; intro w2 s2 b2 m2; clear s2; have l2 := m2.lt; have m12 := m1.below b2; have b12 := b1.trans (b2.mono b1.size)) | ((with_reducible show wpList _ _ _ (⟨some 3, _, _, _, _, _⟩ :: _) _ _); refine wpList_makeM rfl 61 rfl strOk strEnc ?_; intro w3 s3 b3 m3; clear s3; have l3 := m3.lt; have m13 := m12.below b3; have m23 := m2.below b3; have b13 := b12.trans (b3.mono b12.size)) | ((with_reducible show wpList _ _ _ (⟨some 5, _, _, _, _, _⟩ :: _) _ _); refine wpList_boxA rfl 64 (.tmp 4) rfl #[.slice none 0 0, .map (some w.heap.size), .map (some w1.heap.size), .map (some w2.heap.size)] (by rfl) ?_; intro w4 b4 n4; have m14 := m13.below b4; have m24 := m23.below b4; have m34 := m3.below b4; have b14 := b13.trans (b4.mono b13.size)))
  have e1 := b1.size
  have e2 := b2.size
  have e3 := b3.size
  go_returns
  refine ⟨w3.heap.size, w.heap.size, w1.heap.size, w2.heap.size, rfl, ⟨⟨_, n4, [], World.ownsRow_nil _ _ _ _, rfl, (fun i f p hi => by simp at hi), NotIn.nil _⟩, ⟨_, m14.congr (fun x _ => by simp [seenLook])⟩, ⟨_, _, m24, ⟨fun h v _ hv => (by cases hv), fun h _ _ => rfl, fun h h' v v' _ _ _ hv => (by cases hv)⟩, (by rw [HBS.out]; omega)⟩, ⟨_, m34⟩, ⟨by omega, by omega, by omega, by omega⟩, ⟨by omega, by omega, by omega⟩, ⟨by omega, by omega, by omega, by omega⟩⟩, by rw [HBS.out]; exact b14⟩
end Go.Proofs.Ytjlpdbaknhbgdaa
