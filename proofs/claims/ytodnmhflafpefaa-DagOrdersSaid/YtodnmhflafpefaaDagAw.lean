/-
  bevylaw15.awake.
-/
import Derived.Test.YtodnmhflafpefaaDagIns
import Derived.Test.YtodnmhflafpefaaDagNew
import Derived.WalkLawsBesides
import Derived.Laws.ResultCell
import Derived.Deep.LoopGhost
import Derived.Outline
import Derived.Handy
set_option linter.unusedSimpArgs false
set_option linter.unusedVariables false
namespace Go.Proofs.Ytodnmhflafpefaa
open Go.RowKit

def rawAw (k : Nat) : Rv := ⟨UInt8.ofNat (k + 1) :: List.replicate 31 0, UInt8.ofNat k :: List.replicate 31 0, (k : Nat), 0, by simp, by simp⟩
def AwL : Nat → List Vx
  | 0 => []
  | k + 1 => outR 1 (AwL k) (rawAw k)
theorem aw_chk : ∀ k, k < 3 → chkR 1 (AwL k) (rawAw k) = 0
  | 0, _ => by decide +kernel
  | 1, _ => by decide +kernel
  | 2, _ => by decide +kernel
  | k + 3, h => by omega
theorem aw_gone0 : goneR 1 (AwL 0) (rawAw 0) = 0 := by decide +kernel
theorem aw_gone1 : goneR 1 (AwL 1) (rawAw 1) = 0 := by decide +kernel
theorem aw_gone2 : goneR 1 (AwL 2) (rawAw 2) = 1 := by decide +kernel
theorem aw_floor : floorT 1 (AwL 3) = 1 := by decide +kernel
theorem aw_len : (AwL 3).length = 2 := by decide +kernel
theorem awL_len : ∀ k, (AwL k).length ≤ k
  | 0 => Nat.le_refl _
  | k + 1 => Nat.le_trans (outR_len _ _ _) (by have := awL_len k; omega)
theorem AwIns_calls (k n : Nat) (hk : k < 3) (hg : goneR 1 (AwL k) (rawAw k) = n) (sp mb : Nat) (w : World) (hs : StoreIs w sp mb 1 (AwL k)) :
    Calls Try.prog 7 #[.pointer (some ⟨sp, 0, none⟩), .agg (rawAw k).cells.toArray] w fun e w' => ∃ ao c, e = .returned (.tuple #[.slice ao n c, .int .i64 0]) ∧ StoreIs w' sp mb 1 (AwL (k + 1)) ∧ w.grownBy w' (some mb) := by
  refine (Insert_calls sp mb 1 (AwL k) (rawAw k) w hs (by have := awL_len k; omega) (by omega)).mono ?_
  rintro e w' ⟨ao, c, rfl, h1, h2⟩
  exact ⟨ao, c, by rw [hg, aw_chk k hk], h1, h2⟩
theorem Try.awId0 : Try.prog.built 32 [(0, .int .u8 1)] = some ((rawAw 0).id.map bv).toArray := by kernel_rfl
theorem Try.awPar0 : Try.prog.built 32 [(0, .int .u8 0)] = some ((rawAw 0).par.map bv).toArray := by kernel_rfl
theorem Try.awVx0 : Try.prog.built 35 [(0, .agg ((rawAw 0).id.map bv).toArray), (1, .agg ((rawAw 0).par.map bv).toArray), (2, .int .i64 0)] = some (rawAw 0).cells.toArray := by kernel_rfl
theorem Try.awId1 : Try.prog.built 32 [(0, .int .u8 2)] = some ((rawAw 1).id.map bv).toArray := by kernel_rfl
theorem Try.awPar1 : Try.prog.built 32 [(0, .int .u8 1)] = some ((rawAw 1).par.map bv).toArray := by kernel_rfl
theorem Try.awVx1 : Try.prog.built 35 [(0, .agg ((rawAw 1).id.map bv).toArray), (1, .agg ((rawAw 1).par.map bv).toArray), (2, .int .i64 1)] = some (rawAw 1).cells.toArray := by kernel_rfl
theorem Try.awId2 : Try.prog.built 32 [(0, .int .u8 3)] = some ((rawAw 2).id.map bv).toArray := by kernel_rfl
theorem Try.awPar2 : Try.prog.built 32 [(0, .int .u8 2)] = some ((rawAw 2).par.map bv).toArray := by kernel_rfl
theorem Try.awVx2 : Try.prog.built 35 [(0, .agg ((rawAw 2).id.map bv).toArray), (1, .agg ((rawAw 2).par.map bv).toArray), (2, .int .i64 2)] = some (rawAw 2).cells.toArray := by kernel_rfl
set_option maxHeartbeats 8000000 in
set_option maxRecDepth 100000 in
theorem awake15_calls (w : World) : Calls Try.prog 5 #[] w fun e w' => e = .returned (.bool true) ∧ Below w.heap.size w w' := by
  go_enter Try.func5, Try.ntmps5
  go_wp2_with fail
  refine (DNew_calls 1 _ (by omega)).mono ?_
  rintro e w1 ⟨sp, mb, rfl, hs1, b1, hsp, hmb, hne⟩
  have HST1 : Hid (StoreIs w1 sp mb 1 (AwL 0)) := hs1
  have HB1 := Lib.hid b1
  clear hs1 b1 hsp hne
  go_wp2_with fail
  go_loopw [3] (fun i wr => ∃ k : Nat, k ≤ 3 ∧ i = .int .i64 (k : Nat) ∧ Hid (StoreIs wr sp mb 1 (AwL k)) ∧ Hid (Below w.heap.size w wr)) (fun i _ => 3 - (intOf i).toNat)
  case atStart => exact ⟨0, by omega, rfl, HST1, HB1⟩
  case round =>
    obtain ⟨k, hk, rfl, HST, HG⟩ := hrel
    clear HST1 HB1
    have h4 : k = 0 ∨ k = 1 ∨ k = 2 ∨ k = 3 := by omega
    clear hk
    rcases h4 with rfl | rfl | rfl | rfl
    · go_wp2_with (first | ((with_reducible show wpList _ _ _ (⟨some 19, _, _, _, _, _⟩ :: _) _ _); refine wpList_buildCells rfl 32 #[(0, .tmp 18)] rfl ((rawAw 0).id.map bv).toArray Try.awId0 ?_) | ((with_reducible show wpList _ _ _ (⟨some 22, _, _, _, _, _⟩ :: _) _ _); refine wpList_buildCells rfl 32 #[(0, .tmp 21)] rfl ((rawAw 0).par.map bv).toArray Try.awPar0 ?_) | ((with_reducible show wpList _ _ _ (⟨some 24, _, _, _, _, _⟩ :: _) _ _); refine wpList_buildCells rfl 35 #[(0, .tmp 19), (1, .tmp 22), (2, .tmp 23)] rfl (rawAw 0).cells.toArray Try.awVx0 ?_))
      refine (AwIns_calls 0 _ (by omega) aw_gone0 sp mb _ HST.out).mono ?_
      rintro e w6 ⟨ao, c, rfl, hs6, g6⟩
      have HST6 := Lib.hid hs6
      have HG6 : Hid (Below w.heap.size w w6) := HG.out.grown g6 HG.out.size (fun q e => by cases e; exact hmb)
      clear hs6 g6 HST HG
      go_wp2_with fail
      go_roundw
      case rel => exact ⟨1, by omega, rfl, HST6, HG6⟩
      case measure => simp [intOf]
    · go_wp2_with (first | ((with_reducible show wpList _ _ _ (⟨some 19, _, _, _, _, _⟩ :: _) _ _); refine wpList_buildCells rfl 32 #[(0, .tmp 18)] rfl ((rawAw 1).id.map bv).toArray Try.awId1 ?_) | ((with_reducible show wpList _ _ _ (⟨some 22, _, _, _, _, _⟩ :: _) _ _); refine wpList_buildCells rfl 32 #[(0, .tmp 21)] rfl ((rawAw 1).par.map bv).toArray Try.awPar1 ?_) | ((with_reducible show wpList _ _ _ (⟨some 24, _, _, _, _, _⟩ :: _) _ _); refine wpList_buildCells rfl 35 #[(0, .tmp 19), (1, .tmp 22), (2, .tmp 23)] rfl (rawAw 1).cells.toArray Try.awVx1 ?_))
      refine (AwIns_calls 1 _ (by omega) aw_gone1 sp mb _ HST.out).mono ?_
      rintro e w6 ⟨ao, c, rfl, hs6, g6⟩
      have HST6 := Lib.hid hs6
      have HG6 : Hid (Below w.heap.size w w6) := HG.out.grown g6 HG.out.size (fun q e => by cases e; exact hmb)
      clear hs6 g6 HST HG
      go_wp2_with fail
      go_roundw
      case rel => exact ⟨2, by omega, rfl, HST6, HG6⟩
      case measure => simp [intOf]
    · go_wp2_with (first | ((with_reducible show wpList _ _ _ (⟨some 19, _, _, _, _, _⟩ :: _) _ _); refine wpList_buildCells rfl 32 #[(0, .tmp 18)] rfl ((rawAw 2).id.map bv).toArray Try.awId2 ?_) | ((with_reducible show wpList _ _ _ (⟨some 22, _, _, _, _, _⟩ :: _) _ _); refine wpList_buildCells rfl 32 #[(0, .tmp 21)] rfl ((rawAw 2).par.map bv).toArray Try.awPar2 ?_) | ((with_reducible show wpList _ _ _ (⟨some 24, _, _, _, _, _⟩ :: _) _ _); refine wpList_buildCells rfl 35 #[(0, .tmp 19), (1, .tmp 22), (2, .tmp 23)] rfl (rawAw 2).cells.toArray Try.awVx2 ?_))
      refine (AwIns_calls 2 _ (by omega) aw_gone2 sp mb _ HST.out).mono ?_
      rintro e w6 ⟨ao, c, rfl, hs6, g6⟩
      have HST6 := Lib.hid hs6
      have HG6 : Hid (Below w.heap.size w w6) := HG.out.grown g6 HG.out.size (fun q e => by cases e; exact hmb)
      clear hs6 g6 HST HG
      go_wp2_with fail
      go_roundw
      case rel => exact ⟨3, by omega, rfl, HST6, HG6⟩
      case measure => simp [intOf]
    · go_wp2_with fail
      refine (FloorT_calls sp mb 1 (AwL 3) _ HST.out (by rw [aw_len]; omega) (by omega)).mono ?_
      rw [aw_floor]
      rintro e w7 ⟨rfl, b7⟩
      have HST7 := Lib.hid (HST.out.below b7)
      have HG7 := Lib.hid (HG.out.trans (b7.mono HG.out.size))
      clear b7 HST HG
      go_wp2_with fail
      refine (DLen_calls sp mb 1 (AwL 3) _ HST7.out).mono ?_
      rw [aw_len]
      rintro e w8 ⟨rfl, rfl⟩
      go_wp2_with fail
      go_returns
      exact ⟨rfl, HG7.out⟩
end Go.Proofs.Ytodnmhflafpefaa
