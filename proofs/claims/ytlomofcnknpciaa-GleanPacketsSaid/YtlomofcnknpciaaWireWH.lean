/-
  The wire's writer, the other calls that keys need: Hash, End.
-/
import Derived.Test.YtlomofcnknpciaaWireW
import Derived.Test.YtlomofcnknpciaaKit0
import Derived.Lib.AppendStr
import Derived.Deep.AppendLies
import Derived.Deep.RegionLaw
set_option linter.unusedSimpArgs false
set_option linter.unusedVariables false
namespace Go.Proofs.Ytlomofcnknpciaa
open Go.RowKit

/-- 'string(b)' of a slice of bytes that is owned. -/
theorem conv_owned {P : Program} {base : Nat} {w : World} {v : Value} {bs : List UInt8} {src e dst : TypeId} (hs : P.underlying src = some (.slice e)) (he : P.underlying e = some (.int .u8)) (hd : P.underlying dst = some .string)
    (h : w.ownsRow base e 1 v bs.length (bs.map bv)) : (convert src dst v).run P w = .ok (.string (str bs)) w := by
  show _ = Result.ok (Value.string ⟨bs.toArray⟩) w
  rcases h.2 with ⟨rfl, h0⟩ | ⟨g, cap, cur, rfl, _, hg, _, _, _, htk⟩
  · obtain rfl : bs = [] := List.eq_nil_of_length_eq_zero h0
    rw [run_convert_bytes_string w src dst e none 0 0 hs he hd]
    simp [Conv.bytesToString]
    rfl
  · refine run_convert_bytes_back w src dst e ⟨g, 0, none⟩ cap bs hs he hd fun j hj => ?_
    exact h.cells (g := g) rfl j _ (by simp [bv, hj])

theorem endOk_calls (base b : Nat) (bs : List UInt8) (w : World) (h : WriterIs base w b bs false) :
    Calls Try.prog 116 #[.pointer (some ⟨b, 0, none⟩)] w fun e w' => e = .returned (.tuple #[.string (str bs), .int .i64 0]) ∧ w = w' := by
  obtain ⟨h1, v, h2, h3⟩ := h
  have hk := conv_owned Try.underlying69 Try.underlying5 Try.underlying9 h3
  obtain ⟨ao, c, rfl⟩ := own_slice h3
  have hc0 := h2.cell 0 _ rfl
  have hc1 := h2.cell 1 _ rfl
  go_enter Try.func116, Try.ntmps116
  go_wp2
  go_returns
  exact ⟨rfl, rfl⟩
theorem endBad_calls (base b : Nat) (bs : List UInt8) (w : World) (h : WriterIs base w b bs true) :
    Calls Try.prog 116 #[.pointer (some ⟨b, 0, none⟩)] w fun e w' => e = .returned (.tuple #[.string (str []), .int .i64 1]) ∧ w = w' := by
  obtain ⟨h1, v, h2, h3⟩ := h
  have hc1 := h2.cell 1 _ rfl
  go_enter Try.func116, Try.ntmps116
  go_wp2
  go_returns
  exact ⟨rfl, rfl⟩

/-- What a store of the new slice into the writer's field leaves. -/
theorem put_field {base b B : Nat} {w w1 : World} {v v' : Value} {bad : Bool} {n n' : Nat} {xs ys : List Value} (hb : base ≤ b) (h2 : Blk w b #[v, .bool bad] 222) (h3 : w.ownsRow base 5 1 v n xs)
    (h4 : w1.ownsRow base 5 1 v' n' ys) (hg : w.grownBy w1 v.ownBlock) (hs : base ≤ w.heap.size) :
    Blk w1 b #[v, .bool bad] 222 ∧ (w1.setCell ⟨b, 0, none⟩ v').ownsRow base 5 1 v' n' ys ∧ Blk (w1.setCell ⟨b, 0, none⟩ v') b #[v', .bool bad] 222 ∧ WK base w (w1.setCell ⟨b, 0, none⟩ v') := by
  have hb1 : Blk w1 b #[v, .bool bad] 222 := h2.grown hg (fun e => own_ne h3 h2 (by decide) e.symm)
  refine ⟨hb1, ownsRow_setCell_other h4 (own_ne h4 hb1 (by decide)) _, by simpa using hb1.set 0 v', ?_⟩
  exact ⟨((Below.refl base w).grown hg hs (fun k hk => (h3.lt k hk).1)).setCell hb _, ((Typed.refl _ _).grown h3 (by decide) hg).set hb1 (by decide) 0 _⟩

set_option maxHeartbeats 4000000 in
set_option maxRecDepth 100000 in
theorem hash_calls (base b : Nat) (bs hs : List UInt8) (bad : Bool) (w : World) (h : WriterIs base w b bs bad) (hsz : base ≤ w.heap.size) (hl : bs.length ≤ 1099511627776) (hh : hs.length = 32) :
    Calls Try.prog 114 #[.pointer (some ⟨b, 0, none⟩), .agg (hs.map bv).toArray] w fun e w' => e = .returned (.tuple #[]) ∧ WriterIs base w' b (bs ++ hs) bad ∧ WK base w w' := by
  obtain ⟨hb0, v, h2, h3⟩ := h
  obtain ⟨ao, c, rfl⟩ := own_slice h3
  have hbox : Blk (w.alloc (.cells (hs.map bv).toArray 23)) w.heap.size (hs.map bv).toArray 23 := Blk.new _ _ _
  obtain ⟨W, hW⟩ : ∃ W, W = w.alloc (.cells (hs.map bv).toArray 23) := ⟨_, rfl⟩
  have h2' : Blk W b #[.slice ao bs.length c, .bool bad] 222 := by rw [hW]; exact h2.alloc _
  have h3' : W.drew.ownsRow base 5 1 (.slice ao bs.length c) bs.length (bs.map bv) := by rw [hW]; exact (h3.alloc _).drew
  have hbel0 : WK base w W := by rw [hW]; exact (Keep.refl _ _ _).alloc hsz _
  have hWs : W.heap.size = w.heap.size + 1 := by rw [hW]; simp
  rw [← hW] at hbox
  have HWs := Lib.hid hWs
  have hc := h2'.cell 0 _ rfl
  have hf := h2'.free 0
  have HH := Lib.hid hh
  have HN : Hid (∀ j u, (hs.map bv)[j]? = some u → W.drew.cell? ((⟨w.heap.size, 0, none⟩ : Addr).add j) = some u) := by
    intro j u hu
    rw [Addr.add_lit, Nat.zero_add]
    exact hbox.cell j u (by simpa using hu)
  have HO := Lib.hid h3'
  have H3 := Lib.hid h3'
  have HB : Hid (base ≤ W.drew.heap.size) := by show base ≤ W.heap.size; omega
  have HL1 : Hid ((hs.map bv).length = 32 * 1) := by show (hs.map bv).length = 32 * 1; simp [hh]
  have HL2 : Hid (bs.length + 32 ≤ maxLen) := by show _ ≤ maxLen; unfold maxLen; omega
  have HL3 : Hid ((bs.length + 32) * 1 ≤ 140737488355328) := by show _ ≤ _; omega
  obtain ⟨i, hi, hz0, hz1, hz2⟩ := info_parts Try.infoU8
  go_enter Try.func114, Try.ntmps114
  go_wp2_with fail
  simp only [← hW]
  have HW := Lib.hid hW
  clear hW hWs h3' hh
  go_region_law (refine step_append_lies _ rfl (.tmp 10) (.tmp 11) 69 rfl base 5 i (.int .u8 0) 1 1 Try.underlying69 hi hz0 hz1 hz2 rfl (by decide) (.slice ao bs.length c) bs.length (bs.map bv) (by simp [Act.eval, Act.put]) HO.out ⟨w.heap.size, 0, none⟩ 32 32 (hs.map bv) (by simp [Act.eval, Act.put]) HL1.out HN.out (bv_one hs) (by decide) HL2.out HL3.out HB.out _ rfl ?_; intro g cap w1 hown hgrow hat hlt; obtain ⟨hb1, hown1, hb2, hbel⟩ := put_field (B := 0) hb0 h2'.drew H3.out hown hgrow HB.out; have HBel := Lib.hid hbel; have hc1 := hb1.cell 0 _ rfl; have hf1 := hb1.free 0; clear hown hgrow hat hlt hb1 hbel)
  all_goals
    go_wp2
    go_returns
    refine ⟨rfl, ⟨hb0, _, hb2, ?_⟩, hbel0.trans ?_⟩
    · rw [List.map_append, List.length_append, HH.out]
      exact hown1
    · exact ⟨⟨HBel.out.1.os, HBel.out.1.tape, HBel.out.1.output, HBel.out.1.size, HBel.out.1.block⟩, HBel.out.2⟩
end Go.Proofs.Ytlomofcnknpciaa
