/-
  PprNil: a nil row has nothing: for every place.
-/
import Derived.Test.YtnfegmcdljejnaaPprAwake
import Derived.Test.YtnfegmcdljejnaaPprNil
import Derived.Test.YtnfegmcdljejnaaOpenHash
set_option linter.unusedSimpArgs false
set_option linter.unusedVariables false
namespace Go.Proofs.Ytnfegmcdljejnaa
open Go.RowKit

set_option maxHeartbeats 4000000 in
set_option maxRecDepth 100000 in
theorem walkPprNil (p : Int) (hp : (Lit.int .i64 p).wf = true) (w : World) :
    Calls Try.prog 19 #[.int .i64 p] w fun e w' => e = .returned (.bool true) ∧ Below w.heap.size w w' := by
  clear hp
  go_enter Try.func19, Try.ntmps19
  go_wp2_with fail
  refine (LookNil_calls p _).mono ?_
  rintro e w1 ⟨rfl, b1⟩
  have hN1 := Blk.new w1 Z32 23
  go_wp2_with ((with_reducible show wpList _ _ _ (⟨none, Op.store _ (.tmp 4) _, _, _, _, _⟩ :: _) _ _); refine wpList_storeBlk rfl 23 (.tmp 4) (.tmp 12) rfl w1.heap.size (zh32.map bv).toArray (by rfl) (by rfl) _ _ hN1 Try.sizeHash rfl (bv_all _) ?_; intro w2 hK2 g2; have b2 : Below w.heap.size w w2 := b1.trans ((below_new (below_alloc1 w1 (.cells Z32 23)) g2 (Nat.le_refl _) (below_alloc1 w1 (.cells Z32 23)).size).mono b1.size); clear hN1 g2 hK2 b1)
  refine (TakeNil_calls p _).mono ?_
  rintro e w3 ⟨rfl, b3⟩
  have b3' := b2.trans (b3.mono b2.size)
  have hN3 := Blk.new w3 Z32 23
  clear b3 b2
  go_wp2_with ((with_reducible show wpList _ _ _ (⟨none, Op.store _ (.tmp 6) _, _, _, _, _⟩ :: _) _ _); refine wpList_storeBlk rfl 23 (.tmp 6) (.tmp 18) rfl w3.heap.size (zh32.map bv).toArray (by rfl) (by rfl) _ _ hN3 Try.sizeHash rfl (bv_all _) ?_; intro w4 hK4 g4; have b4 : Below w.heap.size w w4 := b3'.trans ((below_new (below_alloc1 w3 (.cells Z32 23)) g4 (Nat.le_refl _) (below_alloc1 w3 (.cells Z32 23)).size).mono b3'.size); clear hN3 g4 hK4 b3')
  refine (awake6_calls _).mono ?_
  rintro e w5 ⟨rfl, b5⟩
  have b6 := b4.trans (b5.mono b4.size)
  clear b5 b4
  go_wp2_with fail
  refine (BitsNil_calls _).mono ?_
  rintro e w7 ⟨rfl, b7⟩
  have b8 := b6.trans (b7.mono b6.size)
  clear b7 b6
  go_wp2_with fail
  refine (GoneNil_calls p _).mono ?_
  rintro e w9 ⟨rfl, b9⟩
  have b10 := b8.trans (b9.mono b8.size)
  clear b9 b8
  go_wp2_with fail
  refine (SeedsNil_calls _).mono ?_
  rintro e w11 ⟨rfl, b11⟩
  have b12 := b10.trans (b11.mono b10.size)
  clear b11 b10
  go_wp2_with fail
  refine (CopyNil_calls _).mono ?_
  rintro e w13 ⟨rfl, b13⟩
  have b14 := b12.trans (b13.mono b12.size)
  clear b13 b12
  go_wp2_with fail
  refine (PackNil_calls _).mono ?_
  rintro e w15 ⟨rfl, b15⟩
  have b16 := b14.trans (b15.mono b14.size)
  clear b15 b14
  go_wp2_with fail
  go_returns
  exact ⟨rfl, b16⟩
end Go.Proofs.Ytnfegmcdljejnaa
