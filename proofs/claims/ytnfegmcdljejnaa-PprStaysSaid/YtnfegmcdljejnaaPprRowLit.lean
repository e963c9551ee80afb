/-
  The document's row: as a literal of its root and its bits.
-/
import Derived.Test.YtnfegmcdljejnaaPprRef2
set_option linter.unusedSimpArgs false
set_option linter.unusedVariables false
namespace Go.Proofs.Ytnfegmcdljejnaa
open Go.RowKit

abbrev zR6 : List Value := (List.replicate 32 (0 : UInt8)).map bv ++ [.int .i64 0, .slice none 0 0]
theorem Try.zeroR6 : (Try.prog.info? 54).bind (·.zero) = some (.agg zR6.toArray) := by kernel_rfl
theorem Try.builtR6 (B : Nat) (h : List UInt8) (hh : h.length = 32) : Try.prog.built 54 [(0, .agg (h.map bv).toArray), (1, .int .i64 B)] = some (rcells h B (.slice none 0 0)).toArray := by
  rw [built_struct Try.zeroR6 Try.underlying54 (places := [(0, 32), (32, 1), (33, 1)]) (by kernel_rfl), Value.cells]
  refine (fill_midV (A := []) (B := (List.replicate 32 (0 : UInt8)).map bv) (C := [.int .i64 0, .slice none 0 0]) (v := h.map bv) rfl rfl (by rw [List.length_map, hh]; rfl) (by simp [hh])).trans ?_
  refine (fill_midV (A := h.map bv) (B := [.int .i64 0]) (C := [.slice none 0 0]) (v := [.int .i64 B]) rfl rfl (by rw [List.length_map, hh]; rfl) rfl).trans ?_
  simp [Instr.fill, rcells]
theorem rcells_all (root : List UInt8) (B n c : Nat) (ao : Option Addr) : (rcells root B (.slice ao n c)).toArray.all (·.oneCell') = true := by
  rw [List.all_toArray, List.all_eq_true]
  intro u hu
  rcases List.mem_append.1 hu with hu | hu
  · exact bv_one _ u hu
  · simp at hu; rcases hu with rfl | rfl <;> rfl
theorem Try.zeroHash : (Try.prog.info? 23).bind (·.zero) = some (.agg Z32) := by kernel_rfl
theorem wpList_allocZ {P : Program} {ops : Array Oper} {rest : List Oper} {o : Oper} {a : Act} {w : World} {Q : Exit → Act → World → Prop} (hg : o.guard = none) (ty : TypeId) (ho : o.op = .alloc ty)
    (cs : Array Value) (hz : (P.info? ty).bind (·.zero) = some (.agg cs)) (h : ∀ w', w'.heap.size = w.heap.size + 1 → Below w.heap.size w w' → Blk w' w.heap.size cs ty → wpList P ops Q rest (a.put o.dst (.pointer (some ⟨w.heap.size, 0, none⟩))) w') : wpList P ops Q (o :: rest) a w := by
  refine wpList_plain hg fun _ hK => wp_allocZ ty ho cs hz ?_
  intro g w' hg2 hs hb hk
  subst hg2
  exact hK _ _ (h w' hs hb hk)
end Go.Proofs.Ytnfegmcdljejnaa
