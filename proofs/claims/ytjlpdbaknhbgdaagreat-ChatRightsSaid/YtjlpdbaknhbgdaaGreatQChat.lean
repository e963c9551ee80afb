/-
  Digests in base 16, numbers in base 10. Numbers in base 10. What a note's key is called. Notes: their cells; whether one is right. Notes: their heads and their bytes.
-/
import Derived.Test.YtjlpdbaknhbgdaaGreatRefCopy
import Derived.Test.YtjlpdbaknhbgdaaGreatQWire
import Derived.Test.YtjlpdbaknhbgdaaGreatQPpr
import Derived.Test.YtjlpdbaknhbgdaaGreatQBase
import Derived.WalkLawsBesides
import Derived.Deep.QuietTactic
import Derived.BigQuiet
import Derived.Deep.RegionHeld
import Derived.Outline
import Derived.Handy
import Derived.Shelf.SlicesE.Reverse
import Derived.Ground.NamesProg
import Derived.Shelf.Lay
import Derived.Shelf.Strings.OnBuilder
set_option linter.unusedSimpArgs false
set_option linter.unusedVariables false
namespace Go.Proofs.YtjlpdbaknhbgdaaGreat
open Go.RowKit

/-- A slice literal of two elements of one cell. -/
theorem wp_bs2V {P : Program} {o : Oper} {a : Act} {w : World} {K : Act → World → Prop} {Q : Exit → Act → World → Prop} (t e : TypeId) (x y : Operand) (ho : o.op = .buildSlice t 2 #[(0, x), (1, y)])
    (u v : Value) (hx : a.eval x = u) (hy : a.eval y = v) (hu : P.underlying t = some (.slice e)) (z : Value) (hz : (P.info? e).map (fun i => (i.zero, i.size)) = some (some z, 1)) (h1 : u.cells = #[u]) (h2 : v.cells = #[v])
    (h : ∀ w', w'.heap.size = w.heap.size + 1 → Below w.heap.size w w' → Blk w' w.heap.size #[u, v] e → K (a.put o.dst (.slice (some ⟨w.heap.size, 0, none⟩) 2 2)) w') : o.wp P a w K Q := by
  cases hi : P.info? e with
  | none => simp [hi] at hz
  | some ie =>
    simp [hi] at hz
    obtain ⟨hz1, hz2⟩ := hz
    refine Go.wp_buildSlice t e 2 #[(0, x), (1, y)] ho #[u, v] ie z hu hi hz1 (by rw [hz2]; omega) (by rw [hz2]; omega) ?_ (h _ (by simp) (below_alloc1 _ _) (Blk.new _ _ _))
    have e1 : (#[(0, x), (1, y)].map fun (i, x) => (i, a.eval x)).toList = (([u, v].zipIdx 0).map fun x => (x.2, x.1)) := by simp [hx, hy]
    rw [e1, hz2, Go.Great.fill_whole (by omega) [u, v] _ (by simp [h1, h2]) (by simp)]
    simp [h1, h2]
def u8Cells (b : UInt8) : List Value := [bv b]
theorem u8Cells_len (b : UInt8) : (u8Cells b).length = 1 := rfl
theorem u8Cells_one (b : UInt8) : ∀ u ∈ u8Cells b, u.oneCell' = true := by
  intro u hu
  rw [u8Cells, List.mem_singleton] at hu
  rw [hu]; rfl
theorem u8_flat (l : List UInt8) : l.flatMap u8Cells = l.map bv := by
  induction l with
  | nil => rfl
  | cons a l ih => rw [List.flatMap_cons, ih]; rfl
/-- A sign of base 16. -/
def sgn16 (d : Nat) : UInt8 := if d < 10 then UInt8.ofNat (48 + d) else UInt8.ofNat (87 + d)
def hexT (h : List UInt8) : List UInt8 := h.flatMap fun b => [sgn16 (b.toNat / 16), sgn16 (b.toNat % 16)]
theorem hexT_snoc (h : List UInt8) (b : UInt8) : hexT (h ++ [b]) = hexT h ++ [sgn16 (b.toNat / 16), sgn16 (b.toNat % 16)] := by
  unfold hexT; rw [List.flatMap_append]; rfl
theorem hexT_len (h : List UInt8) : (hexT h).length = 2 * h.length := by
  unfold hexT
  induction h with
  | nil => rfl
  | cons a l ih => rw [List.flatMap_cons, List.length_append, ih, List.length_cons]; simp; omega
theorem rat_two {w : World} {q : Nat} {a b : UInt8} {t : TypeId} (h : Blk w q #[bv a, bv b] t) : RAt u8Cells w (.slice (some ⟨q, 0, none⟩) 2 2) [a, b] :=
  .inr ⟨q, 0, 2, rfl, h.lt, fun j u hj => by rw [Nat.zero_add]; exact h.cell j u (by simpa [u8Cells] using hj)⟩
theorem Tryz.infoU8c : (Tryz.prog.info? 5).map (fun i => (i.zero, i.size, i.bytes)) = some (some (.int .u8 0), 1, 1) := by kernel_rfl
theorem Tryz.zsU8 : (Tryz.prog.info? 5).map (fun i => (i.zero, i.size)) = some (some (.int .u8 0), 1) := by kernel_rfl
theorem sgnGet (d : Nat) (hd : d < 16) (k : Nat) (hk : k = d) (h : k < ByteArray.size ⟨#[48, 49, 50, 51, 52, 53, 54, 55, 56, 57, 97, 98, 99, 100, 101, 102]⟩) : (⟨#[48, 49, 50, 51, 52, 53, 54, 55, 56, 57, 97, 98, 99, 100, 101, 102]⟩ : ByteArray)[k] = sgn16 d := by
  subst hk
  have : k = 0 ∨ k = 1 ∨ k = 2 ∨ k = 3 ∨ k = 4 ∨ k = 5 ∨ k = 6 ∨ k = 7 ∨ k = 8 ∨ k = 9 ∨ k = 10 ∨ k = 11 ∨ k = 12 ∨ k = 13 ∨ k = 14 ∨ k = 15 := by omega
  rcases this with rfl | rfl | rfl | rfl | rfl | rfl | rfl | rfl | rfl | rfl | rfl | rfl | rfl | rfl | rfl | rfl <;> rfl
theorem and15 : ∀ n, n < 256 → bits BinOp.and IntKind.u8 (n : Nat) 15 = ((n % 16 : Nat) : Int) := by decide +kernel
theorem shr4 (n : Nat) (h : n < 256) : Op.shift .shr .u8 (n : Int) .u64 4 = pure (.int .u8 ((n / 16 : Nat) : Int)) := by
  rw [shift_shr_any .u8 .u64 (n : Int) 4 (by omega), show min ((4 : Int)).toNat (IntKind.bits .u8) = 4 by simp [IntKind.bits]]
  congr 2
theorem index_hash {h : List UInt8} {i : Nat} {b : UInt8} (hh : h.length = 32) (hi : h[i]? = some b) : ∀ x, (Instr.index 23 (.agg (h.map bv).toArray) (.int .i64 (i : Int))).run Tryz.prog x = .ok (bv b) x := by
  intro x
  have hlt : (i : Int) < 32 := by have := (List.getElem?_eq_some_iff.1 hi).1; omega
  have h0 : (0 : Int) ≤ i := by omega
  have hp := part_one (P := Tryz.prog) Tryz.underlying5 rfl (h.map bv).toArray i (bv b) x (by rw [List.getElem?_toArray, List.getElem?_map, hi]; rfl)
  simp [Instr.index, asIntOf, run_underlying Tryz.underlying23, Result.andThen, Tryz.sizeOf5, hlt, h0, hp]
  intro e; omega
set_option maxHeartbeats 4000000 in
set_option maxRecDepth 100000 in
theorem Hex_calls (h : List UInt8) (w : World) (hh : h.length = 32) :
    Calls Tryz.prog 30 #[.agg (h.map bv).toArray] w fun e w' => e = .returned (.string (str (hexT h))) ∧ Below w.heap.size w w' := by
  have HH := Lib.hid hh
  have hA0 : Blk (w.alloc (.cells (h.map bv).toArray 23)) w.heap.size (h.map bv).toArray 23 := Blk.new _ _ _
  have hb0 := Lib.hid (below_alloc1 w (.cells (h.map bv).toArray 23))
  clear hh
  go_enter Tryz.func30, Tryz.ntmps30
  go_wp2_with ((with_reducible show wpList _ _ _ (⟨some 6, _, _, _, _, _⟩ :: _) _ _); refine wpList_loadBlk rfl 23 (.tmp 1) rfl w.heap.size (by rfl) _ _ _ hA0 Tryz.underlying23 rfl (by rw [bv_size, HH.out]; exact Tryz.sizeHash) ?_)
  clear hA0
  go_loopw [3, 7] (fun v j wr => ∃ i : Nat, i ≤ 32 ∧ j = .int .i64 i ∧ Hid (ROwn u8Cells 1 wr w.heap.size 5 v (hexT (h.take i))) ∧ Hid (Below w.heap.size w wr)) (fun _ j _ => 32 - (intOf j).toNat)
  case atStart => exact ⟨0, by omega, rfl, ROwn.nil _ _ _, hb0⟩
  case round =>
    clear hb0
    obtain ⟨i, hi, rfl, HR, HB⟩ := hrel
    obtain ⟨v, rfl⟩ : ∃ z, z = u3 := ⟨_, rfl⟩
    by_cases hlt : i < 32
    · obtain ⟨b, hb⟩ : ∃ b, h[i]? = some b := ⟨_, List.getElem?_eq_getElem (by rw [HH.out]; exact hlt)⟩
      have hix := index_hash HH.out hb
      have hb1 := b.toNat_lt
      have HBB := Lib.hid hb
      obtain ⟨vao, vc, rfl⟩ := HR.out.slice
      go_wp2_with fail
      have hR := HR.out.drew
      have hB := HB.out
      have HLX : Hid ((hexT (h.take i)).length = 2 * i) := by show _ = _; rw [hexT_len, List.length_take, HH.out]; omega
      clear HR HB
      refine wp_region_held_drew (S := fun x => Below w.heap.size w x) (by kernel_rfl) (below_drewN hB 1) (fun hSq1 => ?_)
      refine wpAnyH_take (i := 0) (v := .slice vao (hexT (h.take i)).length vc) rfl (by kernel_rfl) (by kernel_rfl) (by kernel_rfl) (fun _ _ _ h => h) (Or.inl ⟨by rfl, fun x hx => by go_simp⟩) hSq1 ?_
      simp only [Act.put, List.getElem_toArray, List.getElem_cons_zero, List.getElem_cons_succ, List.setIfInBounds_toArray, List.set_cons_zero, List.set_cons_succ]
      refine wpAnyH_take (i := 1) (v := bv b) rfl (by kernel_rfl) (by kernel_rfl) (by kernel_rfl) (fun _ _ _ h => h) (Or.inl ⟨by rfl, fun x hx => by go_simp⟩) hSq1 ?_
      simp only [Act.put, List.getElem_toArray, List.getElem_cons_zero, List.getElem_cons_succ, List.setIfInBounds_toArray, List.set_cons_zero, List.set_cons_succ]
      refine wpAnyH_take (i := 2) (v := .int .u8 ((b.toNat / 16 : Nat) : Int)) rfl (by kernel_rfl) (by kernel_rfl) (by kernel_rfl) (fun _ _ _ h => h) (Or.inl ⟨by rfl, fun x hx => by have hs := shr4 b.toNat hb1; unfold bv; go_simp⟩) hSq1 ?_
      simp only [Act.put, List.getElem_toArray, List.getElem_cons_zero, List.getElem_cons_succ, List.setIfInBounds_toArray, List.set_cons_zero, List.set_cons_succ]
      refine wpAnyH_take (i := 3) (v := bv (sgn16 (b.toNat / 16))) rfl (by kernel_rfl) (by kernel_rfl) (by kernel_rfl) (fun _ _ _ h => h) (Or.inl ⟨by rfl, fun x hx => by go_simp; rw [dif_pos ⟨by omega, by omega⟩, sgnGet (b.toNat / 16) (by omega) _ (by omega)]; rfl⟩) hSq1 ?_
      simp only [Act.put, List.getElem_toArray, List.getElem_cons_zero, List.getElem_cons_succ, List.setIfInBounds_toArray, List.set_cons_zero, List.set_cons_succ]
      refine wpAnyH_take (i := 4) (v := bv b) rfl (by kernel_rfl) (by kernel_rfl) (by kernel_rfl) (fun _ _ _ h => h) (Or.inl ⟨by rfl, fun x hx => by go_simp⟩) hSq1 ?_
      simp only [Act.put, List.getElem_toArray, List.getElem_cons_zero, List.getElem_cons_succ, List.setIfInBounds_toArray, List.set_cons_zero, List.set_cons_succ]
      refine wpAnyH_take (i := 5) (v := .int .u8 ((b.toNat % 16 : Nat) : Int)) rfl (by kernel_rfl) (by kernel_rfl) (by kernel_rfl) (fun _ _ _ h => h) (Or.inl ⟨by rfl, fun x hx => by have hs := and15 b.toNat hb1; unfold bv; go_simp⟩) hSq1 ?_
      simp only [Act.put, List.getElem_toArray, List.getElem_cons_zero, List.getElem_cons_succ, List.setIfInBounds_toArray, List.set_cons_zero, List.set_cons_succ]
      refine wpAnyH_take (i := 6) (v := bv (sgn16 (b.toNat % 16))) rfl (by kernel_rfl) (by kernel_rfl) (by kernel_rfl) (fun _ _ _ h => h) (Or.inl ⟨by rfl, fun x hx => by go_simp; rw [dif_pos ⟨by omega, by omega⟩, sgnGet (b.toNat % 16) (by omega) _ (by omega)]; rfl⟩) hSq1 ?_
      simp only [Act.put, List.getElem_toArray, List.getElem_cons_zero, List.getElem_cons_succ, List.setIfInBounds_toArray, List.set_cons_zero, List.set_cons_succ]
      refine wpAnyH_ready (rs := [7]) (by kernel_rfl) (by simp) ?_
      refine AllReadyH.cons rfl (fun K hK => ?_) AllReadyH.nil
      rw [if_pos (by rfl)]
      refine wp_bs2V 48 5 (.tmp 13) (.tmp 16) rfl (bv (sgn16 (b.toNat / 16))) (bv (sgn16 (b.toNat % 16))) (by rfl) (by rfl) Tryz.underlying48 (.int .u8 0) Tryz.zsU8 (by rfl) (by rfl) ?_
      intro yq2 szq3 bq4 nbq5
      have hRq7 := hR.below bq4
      refine hK.out _ _ (hSq1.trans (bq4.mono hSq1.size)) (fun hSq6 => ?_)
      clear hK K hSq1 bq4 szq3 hR
      refine wpAnyH_ready (rs := [8]) (by kernel_rfl) (by simp) ?_
      refine AllReadyH.cons rfl (fun K hK => ?_) AllReadyH.nil
      rw [if_pos (by rfl)]
      refine wp_append_R (.tmp 10) (.tmp 17) 48 rfl u8Cells_len u8Cells_one w.heap.size 5 (.int .u8 0) 1 Tryz.underlying48 Tryz.infoU8c (by rfl) (by omega) (by omega) _ (hexT (h.take i)) [sgn16 (b.toNat / 16), sgn16 (b.toNat % 16)] (by rfl) hRq7 _ (by rfl) (rat_two nbq5) (by intro _ e; cases e) (by rw [HLX.out]; simp; omega) hSq6.size ?_
      intro vq8 yq9 hRq10 gq11
      refine hK.out _ _ (hSq6.grown gq11 hSq6.size (fun q e => (ROwn.lt hRq7 q e).1)) (fun hSq12 => ?_)
      clear hK K hSq6 gq11 hRq7 nbq5
      refine wpAnyH_ready (rs := [9]) (by kernel_rfl) (by simp) ?_
      refine AllReadyH.cons rfl (fun K hK => ?_) AllReadyH.nil
      go_simp
      refine hK.out _ _ hSq12 (fun hSq13 => ?_)
      clear hK K hSq12
      refine wpAnyH_done (by kernel_rfl) ?_ _
      have HR9 : Hid (ROwn u8Cells 1 yq9 w.heap.size 5 vq8 (hexT (h.take (i + 1)))) := by show ROwn _ _ _ _ _ _ _; rw [take_one HBB.out, hexT_snoc]; exact hRq10
      have HB9 := Lib.hid hSq13
      clear hSq13 hRq10 hix
      go_wp2_with fail
      go_roundw
      case rel => exact ⟨i + 1, by omega, by go_num, HR9, HB9⟩
      case measure => simp [intOf]; omega
    · obtain rfl : i = 32 := by omega
      have hall : h.take 32 = h := by rw [← HH.out]; exact List.take_length
      have hR := HR.out
      rw [hall] at hR
      have hrun := fun x (hx : x = wr) => conv_owned (P := Tryz.prog) (src := 48) (dst := 9) Tryz.underlying48 Tryz.underlying5 Tryz.underlying9 (bs := hexT h) (base := w.heap.size) (w := x) (v := v) (by have h0 := hR; unfold ROwn at h0; rw [u8_flat] at h0; rw [hx]; exact h0)
      have hrun2 := hrun wr rfl
      obtain ⟨vao, vc, rfl⟩ := hR.slice
      clear hR HR hall hrun
      go_wp2_with fail
      go_returns
      exact ⟨rfl, HB.out⟩
def sgnS (b : UInt8) (j : Nat) : UInt8 := if j = 0 then sgn16 (b.toNat / 16) else sgn16 (b.toNat % 16)
theorem sgn_low (d : Nat) (h : d < 10) : (sgn16 d).toNat = 48 + d := by unfold sgn16; rw [if_pos h]; simp; omega
theorem sgn_high (d : Nat) (h : ¬ d < 10) (h2 : d < 16) : (sgn16 d).toNat = 87 + d := by unfold sgn16; rw [if_neg h]; simp; omega
set_option maxHeartbeats 4000000 in
set_option maxRecDepth 100000 in
theorem RHex_calls (h : List UInt8) (w : World) (hh : h.length = 32) :
    Calls Tryz.prog 108 #[.agg (h.map bv).toArray] w fun e w' => e = .returned (.string (str (hexT h))) ∧ Below w.heap.size w w' := by
  have HH := Lib.hid hh
  have HA0 : Hid (Blk (w.alloc (.cells (h.map bv).toArray 22)) w.heap.size (h.map bv).toArray 22) := Blk.new _ _ _
  have hb0 := Lib.hid (below_alloc1 w (.cells (h.map bv).toArray 22))
  clear hh
  go_enter Tryz.func108, Tryz.ntmps108
  go_wp2_with fail
  obtain ⟨W1, hW1⟩ : ∃ z, z = w.alloc (.cells (h.map bv).toArray 22) := ⟨_, rfl⟩
  rw [← hW1] at HA0 hb0 ⊢
  clear hW1
  go_loopw [3, 4] (fun v j wr => ∃ i : Nat, i ≤ 32 ∧ v = .string (str (hexT (h.take i))) ∧ j = .int .i64 i ∧ Hid (Blk wr w.heap.size (h.map bv).toArray 22) ∧ Hid (Below w.heap.size w wr)) (fun _ j _ => 32 - (intOf j).toNat)
  case atStart => exact ⟨0, by omega, rfl, rfl, HA0, hb0⟩
  case round =>
    clear hb0 HA0
    obtain ⟨i, hi, rfl, rfl, HA, HB⟩ := hrel
    by_cases hlt : i < 32
    · obtain ⟨b, hb⟩ : ∃ b, h[i]? = some b := ⟨_, List.getElem?_eq_getElem (by rw [HH.out]; exact hlt)⟩
      have HBB := Lib.hid hb
      have hb1 := b.toNat_lt
      have HS0 : Hid (hexT (h.take i) = hexT (h.take i) ++ [sgnS b 0, sgnS b 1].take 0) := by show _ = _; rw [List.take_zero, List.append_nil]
      obtain ⟨S, hS⟩ : ∃ S, S = hexT (h.take i) := ⟨_, rfl⟩
      rw [← hS] at HS0 ⊢
      have HS := Lib.hid hS
      have hsl : S.length ≤ 64 := by rw [hS, hexT_len, List.length_take]; omega
      have HCB : Hid (∀ y, Blk y w.heap.size (h.map bv).toArray 22 → y.cell? ⟨w.heap.size, i, none⟩ = some (.int .u8 (b.toNat : Int))) := fun y hy => hy.cell i _ (by rw [List.getElem?_toArray, List.getElem?_map, hb]; rfl)
      clear hb hS
      go_wp2_with fail
      go_loopw [3, 5] (fun v j wr2 => ∃ k : Nat, k ≤ 2 ∧ v = .string (str (S ++ [sgnS b 0, sgnS b 1].take k)) ∧ j = .int .i64 k ∧ Hid (Blk wr2 w.heap.size (h.map bv).toArray 22) ∧ Hid (Below w.heap.size w wr2)) (fun _ j _ => 2 - (intOf j).toNat)
      case atStart => exact ⟨0, by omega, by rw [List.take_zero, List.append_nil], rfl, HA, HB⟩
      case round =>
        clear HA HB
        obtain ⟨k, hk, rfl, rfl, HA, HB⟩ := hrel
        obtain ⟨wr2, rfl⟩ : ∃ z, z = wr := ⟨_, rfl⟩
        have hc := HCB.out _ HA.out
        by_cases hk2 : k < 2
        · by_cases hk0 : k = 0
          · obtain ⟨D, hD⟩ : ∃ D, D = b.toNat / 16 := ⟨_, rfl⟩
            have hD16 : D < 16 := by omega
            have hk1 : ((k : Int) == 1) = false := by simp [hk0]
            have HK0 := Lib.hid hk0
            clear hk0
            by_cases hlow : D < 10
            · have hl1 : (b.toNat : Int) / 16 < 10 := by omega
              have hv : Hid ((#[Value.int .u8 (48 + (b.toNat : Int) / 16)] : Array Value).toList.take 1 = [sgn16 D].map bv) := by
                show [Value.int .u8 _] = [Value.int .u8 _]
                rw [sgn_low D hlow, hD]
                congr 2 <;> omega
              have HCV := hv
              go_wp2_with (first | ((with_reducible show wpList _ _ _ (⟨some 17, _, _, _, _, _⟩ :: _) _ _); refine wpList_load1 rfl 5 (.tmp 16) rfl w.heap.size i (by rfl) _ _ hc Tryz.underlying5 rfl ?_) | ((with_reducible show wpList _ _ _ (⟨some 23, _, _, _, _, _⟩ :: _) _ _); refine wpList_load1 rfl 5 (.tmp 22) rfl w.heap.size i (by rfl) _ _ hc Tryz.underlying5 rfl ?_) | ((with_reducible show wpList _ _ _ (⟨some 31, _, _, _, _, _⟩ :: _) _ _); refine wpList_convBlk rfl 48 9 5 (.tmp 30) rfl Tryz.underlying48 Tryz.underlying5 Tryz.underlying9 _ 1 1 (by rfl) _ _ (Blk.new _ _ _) [sgn16 D] rfl HCV.out ?_))
              have HST : Hid (List.take k [sgnS b 0, sgnS b 1] ++ [sgn16 D] = List.take (k + 1) [sgnS b 0, sgnS b 1]) := by
                show _ = _
                rw [hD]
                have e : k = 0 := HK0.out; subst e; rfl
              have HA9 := Lib.hid (HA.out.alloc (.cells #[Value.int .u8 (48 + (b.toNat : Int) / 16)] 5))
              have HB9 := Lib.hid (HB.out.alloc HB.out.size (.cells #[Value.int .u8 (48 + (b.toNat : Int) / 16)] 5))
              have HD := Lib.hid hD
              clear hc hD hv
              refine ⟨⟨k + 1, by omega, by have h := HST.out; rw [HD.out] at h; rw [h], by omega, HA9, HB9⟩, by simp [intOf]; omega⟩
            · have hl1 : ¬ (b.toNat : Int) / 16 < 10 := by omega
              have hv : Hid ((#[Value.int .u8 (97 + (b.toNat : Int) / 16 - 10)] : Array Value).toList.take 1 = [sgn16 D].map bv) := by
                show [Value.int .u8 _] = [Value.int .u8 _]
                rw [sgn_high D hlow hD16, hD]
                congr 2 <;> omega
              have HCV := hv
              go_wp2_with (first | ((with_reducible show wpList _ _ _ (⟨some 17, _, _, _, _, _⟩ :: _) _ _); refine wpList_load1 rfl 5 (.tmp 16) rfl w.heap.size i (by rfl) _ _ hc Tryz.underlying5 rfl ?_) | ((with_reducible show wpList _ _ _ (⟨some 23, _, _, _, _, _⟩ :: _) _ _); refine wpList_load1 rfl 5 (.tmp 22) rfl w.heap.size i (by rfl) _ _ hc Tryz.underlying5 rfl ?_) | ((with_reducible show wpList _ _ _ (⟨some 38, _, _, _, _, _⟩ :: _) _ _); refine wpList_convBlk rfl 48 9 5 (.tmp 37) rfl Tryz.underlying48 Tryz.underlying5 Tryz.underlying9 _ 1 1 (by rfl) _ _ (Blk.new _ _ _) [sgn16 D] rfl HCV.out ?_))
              have HST : Hid (List.take k [sgnS b 0, sgnS b 1] ++ [sgn16 D] = List.take (k + 1) [sgnS b 0, sgnS b 1]) := by
                show _ = _
                rw [hD]
                have e : k = 0 := HK0.out; subst e; rfl
              have HA9 := Lib.hid (HA.out.alloc (.cells #[Value.int .u8 (97 + (b.toNat : Int) / 16 - 10)] 5))
              have HB9 := Lib.hid (HB.out.alloc HB.out.size (.cells #[Value.int .u8 (97 + (b.toNat : Int) / 16 - 10)] 5))
              have HD := Lib.hid hD
              clear hc hD hv
              refine ⟨⟨k + 1, by omega, by have h := HST.out; rw [HD.out] at h; rw [h], by omega, HA9, HB9⟩, by simp [intOf]; omega⟩
          · obtain ⟨D, hD⟩ : ∃ D, D = b.toNat % 16 := ⟨_, rfl⟩
            have hD16 : D < 16 := by omega
            have hk1 : ((k : Int) == 1) = true := by rw [beq_iff_eq]; omega
            have HK0 := Lib.hid hk0
            clear hk0
            by_cases hlow : D < 10
            · have hl1 : (b.toNat : Int) % 16 < 10 := by omega
              have hv : Hid ((#[Value.int .u8 (48 + (b.toNat : Int) % 16)] : Array Value).toList.take 1 = [sgn16 D].map bv) := by
                show [Value.int .u8 _] = [Value.int .u8 _]
                rw [sgn_low D hlow, hD]
                congr 2 <;> omega
              have HCV := hv
              go_wp2_with (first | ((with_reducible show wpList _ _ _ (⟨some 17, _, _, _, _, _⟩ :: _) _ _); refine wpList_load1 rfl 5 (.tmp 16) rfl w.heap.size i (by rfl) _ _ hc Tryz.underlying5 rfl ?_) | ((with_reducible show wpList _ _ _ (⟨some 23, _, _, _, _, _⟩ :: _) _ _); refine wpList_load1 rfl 5 (.tmp 22) rfl w.heap.size i (by rfl) _ _ hc Tryz.underlying5 rfl ?_) | ((with_reducible show wpList _ _ _ (⟨some 31, _, _, _, _, _⟩ :: _) _ _); refine wpList_convBlk rfl 48 9 5 (.tmp 30) rfl Tryz.underlying48 Tryz.underlying5 Tryz.underlying9 _ 1 1 (by rfl) _ _ (Blk.new _ _ _) [sgn16 D] rfl HCV.out ?_))
              have HST : Hid (List.take k [sgnS b 0, sgnS b 1] ++ [sgn16 D] = List.take (k + 1) [sgnS b 0, sgnS b 1]) := by
                show _ = _
                rw [hD]
                obtain rfl : k = 1 := by have := HK0.out; omega
                rfl
              have HA9 := Lib.hid (HA.out.alloc (.cells #[Value.int .u8 (48 + (b.toNat : Int) % 16)] 5))
              have HB9 := Lib.hid (HB.out.alloc HB.out.size (.cells #[Value.int .u8 (48 + (b.toNat : Int) % 16)] 5))
              have HD := Lib.hid hD
              clear hc hD hv
              refine ⟨⟨k + 1, by omega, by have h := HST.out; rw [HD.out] at h; rw [h], by omega, HA9, HB9⟩, by simp [intOf]; omega⟩
            · have hl1 : ¬ (b.toNat : Int) % 16 < 10 := by omega
              have hv : Hid ((#[Value.int .u8 (97 + (b.toNat : Int) % 16 - 10)] : Array Value).toList.take 1 = [sgn16 D].map bv) := by
                show [Value.int .u8 _] = [Value.int .u8 _]
                rw [sgn_high D hlow hD16, hD]
                congr 2 <;> omega
              have HCV := hv
              go_wp2_with (first | ((with_reducible show wpList _ _ _ (⟨some 17, _, _, _, _, _⟩ :: _) _ _); refine wpList_load1 rfl 5 (.tmp 16) rfl w.heap.size i (by rfl) _ _ hc Tryz.underlying5 rfl ?_) | ((with_reducible show wpList _ _ _ (⟨some 23, _, _, _, _, _⟩ :: _) _ _); refine wpList_load1 rfl 5 (.tmp 22) rfl w.heap.size i (by rfl) _ _ hc Tryz.underlying5 rfl ?_) | ((with_reducible show wpList _ _ _ (⟨some 38, _, _, _, _, _⟩ :: _) _ _); refine wpList_convBlk rfl 48 9 5 (.tmp 37) rfl Tryz.underlying48 Tryz.underlying5 Tryz.underlying9 _ 1 1 (by rfl) _ _ (Blk.new _ _ _) [sgn16 D] rfl HCV.out ?_))
              have HST : Hid (List.take k [sgnS b 0, sgnS b 1] ++ [sgn16 D] = List.take (k + 1) [sgnS b 0, sgnS b 1]) := by
                show _ = _
                rw [hD]
                obtain rfl : k = 1 := by have := HK0.out; omega
                rfl
              have HA9 := Lib.hid (HA.out.alloc (.cells #[Value.int .u8 (97 + (b.toNat : Int) % 16 - 10)] 5))
              have HB9 := Lib.hid (HB.out.alloc HB.out.size (.cells #[Value.int .u8 (97 + (b.toNat : Int) % 16 - 10)] 5))
              have HD := Lib.hid hD
              clear hc hD hv
              refine ⟨⟨k + 1, by omega, by have h := HST.out; rw [HD.out] at h; rw [h], by omega, HA9, HB9⟩, by simp [intOf]; omega⟩
        · obtain rfl : k = 2 := by omega
          have HST : Hid (S ++ List.take 2 [sgnS b 0, sgnS b 1] = hexT (h.take (i + 1))) := by
            show _ = _
            rw [take_one HBB.out, hexT_snoc, HS.out]; rfl
          clear hc HCB
          rw [HST.out]
          go_wp2_with fail
          go_roundw
          case rel => exact ⟨i + 1, by omega, rfl, by go_num, HA, HB⟩
          case measure => simp [intOf]; omega
    · obtain rfl : i = 32 := by omega
      have hall : h.take 32 = h := by rw [← HH.out]; exact List.take_length
      rw [hall]
      clear hall
      go_wp2_with fail
      go_returns
      exact ⟨rfl, HB.out⟩
end Go.Proofs.YtjlpdbaknhbgdaaGreat
set_option linter.unusedSimpArgs false
set_option linter.unusedVariables false
namespace Go.Proofs
open Go.Shelf Go.Lib
shelf_lay_g SlLaysE.n35 Slgn 35 at Tryz 174 as Tryz.reverseU8
end Go.Proofs
namespace Go.Proofs.YtjlpdbaknhbgdaaGreat
open Go.RowKit

/-- A number's signs in base 10, the low ones first. -/
def digR (m : Nat) : List UInt8 := if m / 10 = 0 then [UInt8.ofNat (48 + m % 10)] else UInt8.ofNat (48 + m % 10) :: digR (m / 10)
termination_by m
decreasing_by omega
theorem digR_last (m : Nat) (h : m / 10 = 0) : digR m = [UInt8.ofNat (48 + m % 10)] := by rw [digR, if_pos h]
theorem digR_more (m : Nat) (h : ¬ m / 10 = 0) : digR m = UInt8.ofNat (48 + m % 10) :: digR (m / 10) := by conv => lhs; rw [digR, if_neg h]
theorem digR_len : ∀ (k m : Nat), m < 10 ^ k → (digR m).length ≤ max k 1
  | 0, m, h => by
    have : m = 0 := by simpa using h
    subst this; rw [digR_last 0 rfl]; simp
  | k + 1, m, h => by
    by_cases h0 : m / 10 = 0
    · rw [digR_last m h0]; simp <;> omega
    · have h1 : m / 10 < 10 ^ k := by rw [Nat.pow_succ] at h; omega
      have := digR_len k (m / 10) h1
      have hk : 1 ≤ k := by
        rcases Nat.eq_zero_or_pos k with e | e
        · rw [e, Nat.pow_zero] at h1; omega
        · exact e
      rw [digR_more m h0, List.length_cons]; omega
theorem digR_len20 (m : Nat) (h : m ≤ 9223372036854775808) : (digR m).length ≤ 19 := by
  have := digR_len 19 m (by omega)
  omega
/-- A number in base 10. -/
def decT (n : Int) : List UInt8 := if n < 0 then 45 :: (digR n.natAbs).reverse else (digR n.natAbs).reverse
theorem bv_oneCell : Go.Proofs.OneCell (bv : UInt8 → Value) := fun _ => rfl
theorem ReverseB_calls (g c base : Nat) (l : List UInt8) (w : World) (h : ROwn u8Cells 1 w base 5 (.slice (some ⟨g, 0, none⟩) l.length c) l) :
    Calls Tryz.prog 174 #[.slice (some ⟨g, 0, none⟩) l.length c] w fun e w' => e = .returned (.tuple #[]) ∧ (∀ j (hj : j < l.reverse.length), w'.cell? ⟨g, j, none⟩ = some (.int .u8 (l.reverse[j].toNat : Int))) ∧ w.grownBy w' (some g) := by
  have hH : Go.Sort.Holds bv w g 0 l.toArray := by
    intro j hj
    have hj' : j < l.length := by simpa using hj
    rcases h.2 with ⟨h0, _⟩ | ⟨g', cap, cur, he, _, hg, _, _, _, htk⟩
    · injection h0 with h1; cases h1
    · simp only [Value.slice.injEq, Option.some.injEq, Addr.mk.injEq] at he
      obtain ⟨⟨rfl, _⟩, _, rfl⟩ := he
      refine ⟨?_, by simp [World.frozen?, hg]⟩
      have e1 : (cur.toList.take (l.length * 1))[j]? = (l.flatMap u8Cells)[j]? := by rw [htk]
      rw [List.getElem?_take_of_lt (by omega), u8_flat, List.getElem?_map, List.getElem?_eq_getElem hj'] at e1
      have e2 : cur[j]? = some (bv l[j]) := by simpa using e1
      have e3 : l.toArray[j]! = l[j]'hj' := by rw [getElem!_pos l.toArray j hj]; simp
      rw [e3, Nat.zero_add]
      simp [World.cell?, hg, e2]
  have hm : l.length ≤ 9223372036854775807 := by
    rcases h.2 with ⟨h0, h1⟩ | ⟨_, _, _, he, _, _, h5, hm, _⟩
    · omega
    · unfold maxLen at hm; omega
  have hcall := AnyE.slices_Reverse Tryz.reverseU8 bv bv_oneCell g 0 c l w hH hm
  change Calls Tryz.prog 174 _ _ _ at hcall
  refine hcall.mono ?_
  rintro e w' ⟨rfl, n, rfl⟩
  have hgr : w.grownBy (Go.Sort.putRow bv (Go.Sort.ahead w n) g 0 l.reverse.toArray) (some g) := grown_trans (ahead_grown w n _) (putRow_grown _ _ _ _ _)
  have h2 := Go.Sort.holds_putRow bv (Go.Sort.ahead w n) g 0 l.toArray l.reverse.toArray (Go.Sort.holds_ahead _ _ _ _ _ _ hH) (by simp)
  refine ⟨rfl, fun j hj => ?_, hgr⟩
  have := (h2 j (by simpa using hj)).1
  rw [Nat.zero_add] at this
  rw [this, getElem!_pos _ _ (by simpa using hj)]
  simp [bv]
set_option maxHeartbeats 4000000 in
set_option maxRecDepth 100000 in
theorem dec_calls (n : Int) (w : World) (h1 : -9223372036854775808 ≤ n) (h2 : n ≤ 9223372036854775807) :
    Calls Tryz.prog 107 #[.int .i64 n] w fun e w' => e = .returned (.string (str (decT n))) ∧ Below w.heap.size w w' := by
  obtain ⟨M, hM⟩ : ∃ M, M = n.natAbs := ⟨_, rfl⟩
  have hM1 : M ≤ 9223372036854775808 := by omega
  have hL := digR_len20 M hM1
  have hLp : 0 < (digR M).length := by
    by_cases e : M / 10 = 0
    · rw [digR_last M e]; simp
    · rw [digR_more M e]; simp
  by_cases h0 : n < 0
  · have hn : n = -(M : Int) := by omega
    have hM0 : 0 < M := by omega
    clear hM h0
    subst hn
    have h0 : -(M : Int) < 0 := by omega
    go_enter Tryz.func107, Tryz.ntmps107
    go_wp2_with fail
    go_loopw [0, 4] (fun a v wr => ∃ (m : Nat) (acc : List UInt8), a = .int .i64 (-(m : Int)) ∧ m ≤ M ∧ Hid (acc ++ digR m = digR M) ∧ Hid (ROwn u8Cells 1 wr w.heap.size 5 v acc) ∧ Hid (Below w.heap.size w wr)) (fun a _ _ => (intOf a).natAbs)
    case atStart => exact ⟨M, [], rfl, by omega, rfl, ROwn.nil _ _ _, Below.refl _ _⟩
    case round =>
      obtain ⟨m, acc, rfl, hm, HA, HR, HB⟩ := hrel
      obtain ⟨v, rfl⟩ : ∃ z, z = u4 := ⟨_, rfl⟩
      obtain ⟨cB, hcB⟩ : ∃ c : UInt8, c = UInt8.ofNat (48 + m % 10) := ⟨_, rfl⟩
      have HCB := Lib.hid hcB
      have HCV : Hid (Value.int .u8 (48 + (m : Int) % 10) = bv cB) := by
        show _ = _
        rw [hcB]
        show _ = Value.int .u8 ((UInt8.ofNat (48 + m % 10)).toNat : Int)
        congr 1
        simp
        omega
      have HAL : Hid (acc.length ≤ 19) := by
        have h := congrArg List.length HA.out
        rw [List.length_append] at h
        show _ ≤ _; omega
      clear hcB
      by_cases h0 : m / 10 = 0
      · have e0 : (-((m : Int) / 10) == 0) = true := by rw [beq_iff_eq]; omega
        have HDL : Hid (acc ++ [cB] = digR M) := by show _ = _; rw [← HA.out, digR_last m h0, HCB.out]
        clear h0
        go_wp2_with (first | ((with_reducible show wpList _ _ _ (⟨some 16, _, _, _, _, _⟩ :: _) _ _); refine wpList_bsV rfl 48 5 (.tmp 15) rfl (bv cB) HCV.out Tryz.underlying48 (.int .u8 0) 1 Tryz.zsU8 (by rfl) (by omega) (by omega) ?_; intro w16 s16 b16 n16; have HR16 := Lib.hid (HR.out.below b16); have HB16 := Lib.hid (HB.out.trans (b16.mono HB.out.size)); clear s16 b16 HR HB) | ((with_reducible show wpList _ _ _ (⟨some 17, _, _, _, _, _⟩ :: _) _ _); refine wpList_append_R rfl (.tmp 11) (.tmp 16) 48 rfl u8Cells_len u8Cells_one w.heap.size 5 (.int .u8 0) 1 Tryz.underlying48 Tryz.infoU8c (by rfl) (by omega) (by omega) _ acc [cB] (by rfl) HR16.out _ (by rfl) (RAt.blk n16) (by intro _ e; cases e) (by have := HAL.out; simp; omega) HB16.out.size ?_; intro v17 w17 h17 g17; have HR17 := Lib.hid h17; have HB17 := Lib.hid (HB16.out.grown g17 HB16.out.size (fun q e => (HR16.out.lt q e).1)); clear h17 g17 HR16 HB16 n16) | ((with_reducible show wpList _ _ _ (⟨some 24, _, _, _, _, _⟩ :: _) _ _); refine wpList_bsV rfl 48 5 (.const (.int .u8 45)) rfl (bv 45) (by rfl) Tryz.underlying48 (.int .u8 0) 1 Tryz.zsU8 (by rfl) (by omega) (by omega) ?_; intro w24 s24 b24 n24; have HR24 := Lib.hid (HR17.out.below b24); have HB24 := Lib.hid (HB17.out.trans (b24.mono HB17.out.size)); clear s24 b24 HR17 HB17) | ((with_reducible show wpList _ _ _ (⟨some 25, _, _, _, _, _⟩ :: _) _ _); refine wpList_append_R rfl (.tmp 23) (.tmp 24) 48 rfl u8Cells_len u8Cells_one w.heap.size 5 (.int .u8 0) 1 Tryz.underlying48 Tryz.infoU8c (by rfl) (by omega) (by omega) _ (acc ++ [cB]) [45] (by rfl) HR24.out _ (by rfl) (RAt.blk n24) (by intro _ e; cases e) (by have := HAL.out; simp; omega) HB24.out.size ?_; intro v25 w25 h25 g25; have HR25 := Lib.hid (show ROwn u8Cells 1 w25 w.heap.size 5 v25 (digR M ++ [45]) by rw [← HDL.out]; exact h25); have HB25 := Lib.hid (HB24.out.grown g25 HB24.out.size (fun q e => (HR24.out.lt q e).1)); clear h25 g25 HR24 HB24 n24))
        have hS : Hid (decT (-(M : Int)) = (digR M ++ [45]).reverse) := by show _ = _; unfold decT; rw [if_pos (by omega), show (-(M : Int)).natAbs = M by omega, List.reverse_append]; rfl
        obtain ⟨g, hg⟩ : ∃ g, v25.ownBlock = some g := by
          obtain ⟨ao, c, rfl⟩ := HR25.out.slice
          obtain ⟨g, rfl⟩ := HR25.out.addr (by simp)
          exact ⟨g, rfl⟩
        obtain ⟨c, rfl⟩ : ∃ c, v25 = .slice (some ⟨g, 0, none⟩) (digR M ++ [45]).length c := by
          obtain ⟨ao, c, rfl⟩ := HR25.out.slice
          obtain ⟨g', rfl⟩ := HR25.out.addr (by simp)
          obtain rfl : g' = g := by simpa [Value.ownBlock] using hg
          exact ⟨c, rfl⟩
        have hgb := (HR25.out.lt g rfl).1
        go_wp2_with fail
        refine (ReverseB_calls g c w.heap.size (digR M ++ [45]) _ HR25.out).mono ?_
        rintro e w5 ⟨rfl, hc5, g5⟩
        have HB5 := Lib.hid (HB25.out.grown g5 HB25.out.size (fun q e => by cases e; exact hgb))
        have hrun : (convert 48 9 (.slice (some ⟨g, 0, none⟩) (digR M ++ [45]).reverse.length c)).run Tryz.prog w5 = .ok (.string (str (digR M ++ [45]).reverse)) w5 := run_convert_bytes_back w5 _ _ _ _ c _ Tryz.underlying48 Tryz.underlying5 Tryz.underlying9 (fun j hj => by rw [Addr.add_lit, Nat.zero_add]; exact hc5 j hj)
        rw [List.length_reverse] at hrun
        simp only [List.length_append, List.length_cons, List.length_nil, Nat.zero_add] at hrun
        clear hc5 g5 HR25 HB25
        go_wp2_with fail
        go_returns
        exact ⟨by rw [hS.out, List.reverse_append]; rfl, HB5.out⟩
      · have e0 : (-((m : Int) / 10) == 0) = false := by rw [beq_eq_false_iff_ne]; omega
        have HDM : Hid ((acc ++ [cB]) ++ digR (m / 10) = digR M) := by show _ = _; rw [← HA.out, digR_more m h0, HCB.out, List.append_assoc]; rfl
        go_wp2_with (first | ((with_reducible show wpList _ _ _ (⟨some 16, _, _, _, _, _⟩ :: _) _ _); refine wpList_bsV rfl 48 5 (.tmp 15) rfl (bv cB) HCV.out Tryz.underlying48 (.int .u8 0) 1 Tryz.zsU8 (by rfl) (by omega) (by omega) ?_; intro w16 s16 b16 n16; have HR16 := Lib.hid (HR.out.below b16); have HB16 := Lib.hid (HB.out.trans (b16.mono HB.out.size)); clear s16 b16 HR HB) | ((with_reducible show wpList _ _ _ (⟨some 17, _, _, _, _, _⟩ :: _) _ _); refine wpList_append_R rfl (.tmp 11) (.tmp 16) 48 rfl u8Cells_len u8Cells_one w.heap.size 5 (.int .u8 0) 1 Tryz.underlying48 Tryz.infoU8c (by rfl) (by omega) (by omega) _ acc [cB] (by rfl) HR16.out _ (by rfl) (RAt.blk n16) (by intro _ e; cases e) (by have := HAL.out; simp; omega) HB16.out.size ?_; intro v17 w17 h17 g17; have HR17 := Lib.hid h17; have HB17 := Lib.hid (HB16.out.grown g17 HB16.out.size (fun q e => (HR16.out.lt q e).1)); clear h17 g17 HR16 HB16 n16))
        clear HA HAL HCV
        go_roundw
        case rel => exact ⟨m / 10, acc ++ [cB], by go_num, by omega, HDM, HR17, HB17⟩
        case measure => simp [intOf]; omega
  · have hn : n = (M : Int) := by omega
    clear hM h0
    subst hn
    have h0 : ¬ (M : Int) < 0 := by omega
    go_enter Tryz.func107, Tryz.ntmps107
    go_wp2_with fail
    go_loopw [0, 4] (fun a v wr => ∃ (m : Nat) (acc : List UInt8), a = .int .i64 (-(m : Int)) ∧ m ≤ M ∧ Hid (acc ++ digR m = digR M) ∧ Hid (ROwn u8Cells 1 wr w.heap.size 5 v acc) ∧ Hid (Below w.heap.size w wr)) (fun a _ _ => (intOf a).natAbs)
    case atStart => exact ⟨M, [], rfl, by omega, rfl, ROwn.nil _ _ _, Below.refl _ _⟩
    case round =>
      obtain ⟨m, acc, rfl, hm, HA, HR, HB⟩ := hrel
      obtain ⟨v, rfl⟩ : ∃ z, z = u4 := ⟨_, rfl⟩
      obtain ⟨cB, hcB⟩ : ∃ c : UInt8, c = UInt8.ofNat (48 + m % 10) := ⟨_, rfl⟩
      have HCB := Lib.hid hcB
      have HCV : Hid (Value.int .u8 (48 + (m : Int) % 10) = bv cB) := by
        show _ = _
        rw [hcB]
        show _ = Value.int .u8 ((UInt8.ofNat (48 + m % 10)).toNat : Int)
        congr 1
        simp
        omega
      have HAL : Hid (acc.length ≤ 19) := by
        have h := congrArg List.length HA.out
        rw [List.length_append] at h
        show _ ≤ _; omega
      clear hcB
      by_cases h0 : m / 10 = 0
      · have e0 : (-((m : Int) / 10) == 0) = true := by rw [beq_iff_eq]; omega
        have HDL : Hid (acc ++ [cB] = digR M) := by show _ = _; rw [← HA.out, digR_last m h0, HCB.out]
        clear h0
        go_wp2_with (first | ((with_reducible show wpList _ _ _ (⟨some 16, _, _, _, _, _⟩ :: _) _ _); refine wpList_bsV rfl 48 5 (.tmp 15) rfl (bv cB) HCV.out Tryz.underlying48 (.int .u8 0) 1 Tryz.zsU8 (by rfl) (by omega) (by omega) ?_; intro w16 s16 b16 n16; have HR16 := Lib.hid (HR.out.below b16); have HB16 := Lib.hid (HB.out.trans (b16.mono HB.out.size)); clear s16 b16 HR HB) | ((with_reducible show wpList _ _ _ (⟨some 17, _, _, _, _, _⟩ :: _) _ _); refine wpList_append_R rfl (.tmp 11) (.tmp 16) 48 rfl u8Cells_len u8Cells_one w.heap.size 5 (.int .u8 0) 1 Tryz.underlying48 Tryz.infoU8c (by rfl) (by omega) (by omega) _ acc [cB] (by rfl) HR16.out _ (by rfl) (RAt.blk n16) (by intro _ e; cases e) (by have := HAL.out; simp; omega) HB16.out.size ?_; intro v17 w17 h17 g17; have HR17 := Lib.hid h17; have HB17 := Lib.hid (HB16.out.grown g17 HB16.out.size (fun q e => (HR16.out.lt q e).1)); clear h17 g17 HR16 HB16 n16))
        have HR := Lib.hid (show ROwn u8Cells 1 w17 w.heap.size 5 v17 (digR M) by rw [← HDL.out]; exact HR17.out)
        have HB := HB17
        clear HR17 HB17 HDL
        obtain ⟨v, rfl⟩ : ∃ z, z = v17 := ⟨_, rfl⟩
        have hS : Hid (decT (M : Int) = (digR M).reverse) := by show _ = _; unfold decT; rw [if_neg (by omega), Int.natAbs_natCast]
        obtain ⟨ao, c, rfl⟩ := HR.out.slice
        obtain ⟨g, rfl⟩ := HR.out.addr hLp
        have hgb := (HR.out.lt g rfl).1
        go_wp2_with fail
        refine (ReverseB_calls g c w.heap.size (digR M) _ HR.out).mono ?_
        rintro e w5 ⟨rfl, hc5, g5⟩
        have HB5 := Lib.hid (HB.out.grown g5 HB.out.size (fun q e => by cases e; exact hgb))
        have hrun : (convert 48 9 (.slice (some ⟨g, 0, none⟩) (digR M).reverse.length c)).run Tryz.prog w5 = .ok (.string (str (digR M).reverse)) w5 := run_convert_bytes_back w5 _ _ _ _ c _ Tryz.underlying48 Tryz.underlying5 Tryz.underlying9 (fun j hj => by rw [Addr.add_lit, Nat.zero_add]; exact hc5 j hj)
        rw [List.length_reverse] at hrun
        clear hc5 g5 HR HB
        go_wp2_with fail
        go_returns
        exact ⟨by rw [hS.out]; rfl, HB5.out⟩
      · have e0 : (-((m : Int) / 10) == 0) = false := by rw [beq_eq_false_iff_ne]; omega
        have HDM : Hid ((acc ++ [cB]) ++ digR (m / 10) = digR M) := by show _ = _; rw [← HA.out, digR_more m h0, HCB.out, List.append_assoc]; rfl
        go_wp2_with (first | ((with_reducible show wpList _ _ _ (⟨some 16, _, _, _, _, _⟩ :: _) _ _); refine wpList_bsV rfl 48 5 (.tmp 15) rfl (bv cB) HCV.out Tryz.underlying48 (.int .u8 0) 1 Tryz.zsU8 (by rfl) (by omega) (by omega) ?_; intro w16 s16 b16 n16; have HR16 := Lib.hid (HR.out.below b16); have HB16 := Lib.hid (HB.out.trans (b16.mono HB.out.size)); clear s16 b16 HR HB) | ((with_reducible show wpList _ _ _ (⟨some 17, _, _, _, _, _⟩ :: _) _ _); refine wpList_append_R rfl (.tmp 11) (.tmp 16) 48 rfl u8Cells_len u8Cells_one w.heap.size 5 (.int .u8 0) 1 Tryz.underlying48 Tryz.infoU8c (by rfl) (by omega) (by omega) _ acc [cB] (by rfl) HR16.out _ (by rfl) (RAt.blk n16) (by intro _ e; cases e) (by have := HAL.out; simp; omega) HB16.out.size ?_; intro v17 w17 h17 g17; have HR17 := Lib.hid h17; have HB17 := Lib.hid (HB16.out.grown g17 HB16.out.size (fun q e => (HR16.out.lt q e).1)); clear h17 g17 HR16 HB16 n16))
        clear HA HAL HCV
        go_roundw
        case rel => exact ⟨m / 10, acc ++ [cB], by go_num, by omega, HDM, HR17, HB17⟩
        case measure => simp [intOf]; omega
set_option maxHeartbeats 4000000 in
set_option maxRecDepth 100000 in
theorem digitsPos_calls (M : Nat) (w : World) (hM : M ≤ 9223372036854775807) :
    Calls Tryz.prog 109 #[.int .i64 (M : Int)] w fun e w' => e = .returned (.string (str (decT (M : Int)))) ∧ Below w.heap.size w w' := by
  have hL := digR_len20 M (by omega)
  have HS : Hid (decT (M : Int) = (digR M).reverse) := by show _ = _; unfold decT; rw [if_neg (by omega), Int.natAbs_natCast]
  have h0 : ¬ (M : Int) < 0 := by omega
  go_enter Tryz.func109, Tryz.ntmps109
  go_wp2_with fail
  go_loopw [0, 5] (fun a v wr => ∃ (m : Nat) (acc : List UInt8), a = .int .i64 (m : Int) ∧ m ≤ M ∧ v = .string (str acc) ∧ Hid ((digR m).reverse ++ acc = (digR M).reverse) ∧ Hid (Below w.heap.size w wr)) (fun a _ _ => (intOf a).natAbs)
  case atStart => exact ⟨M, [], rfl, by omega, rfl, List.append_nil _, Below.refl _ _⟩
  case round =>
    obtain ⟨m, acc, rfl, hm, rfl, HA, HB⟩ := hrel
    have hal : acc.length ≤ 19 := by
      have h := congrArg List.length HA.out
      rw [List.length_append, List.length_reverse, List.length_reverse] at h
      omega
    obtain ⟨cB, hcB⟩ : ∃ c : UInt8, c = UInt8.ofNat (48 + m % 10) := ⟨_, rfl⟩
    have HCB := Lib.hid hcB
    have HCN : Hid (cB.toNat = 48 + m % 10) := by show _ = _; rw [hcB]; simp; omega
    clear hcB
    by_cases h9 : 9 < m
    · have h9' : (9 : Int) < m := by omega
      have HCV : Hid ((#[Value.int .u8 (48 + (m : Int) % 10)] : Array Value).toList.take 1 = [cB].map bv) := by
        show [Value.int .u8 _] = [Value.int .u8 _]
        rw [HCN.out]
        congr 2 <;> omega
      have HDM : Hid ((digR (m / 10)).reverse ++ ([cB] ++ acc) = (digR M).reverse) := by
        show _ = _
        rw [← HA.out, digR_more m (by omega), HCB.out, List.reverse_cons, List.append_assoc]
      have HB9 := Lib.hid (HB.out.alloc HB.out.size (.cells #[Value.int .u8 (48 + (m : Int) % 10)] 5))
      go_wp2_with ((with_reducible show wpList _ _ _ (⟨some 33, _, _, _, _, _⟩ :: _) _ _); refine wpList_convBlk rfl 48 9 5 (.tmp 32) rfl Tryz.underlying48 Tryz.underlying5 Tryz.underlying9 _ 1 1 (by rfl) _ _ (Blk.new _ _ _) [cB] rfl HCV.out ?_)
      clear HA HB HCV HCN HCB hal
      go_roundw
      case rel => exact ⟨m / 10, [cB] ++ acc, by go_num, by omega, rfl, HDM, HB9⟩
      case measure => simp [intOf]; omega
    · have h9' : ¬ (9 : Int) < m := by omega
      have HCV : Hid ((#[Value.int .u8 (48 + (m : Int))] : Array Value).toList.take 1 = [cB].map bv) := by
        show [Value.int .u8 _] = [Value.int .u8 _]
        rw [HCN.out]
        congr 2 <;> omega
      have HDM : Hid (decT (M : Int) = [cB] ++ acc) := by
        show _ = _
        rw [HS.out, ← HA.out, digR_last m (by omega), HCB.out]; rfl
      have HB9 := Lib.hid (HB.out.alloc HB.out.size (.cells #[Value.int .u8 (48 + (m : Int))] 5))
      clear HA HB
      go_wp2_with ((with_reducible show wpList _ _ _ (⟨some 42, _, _, _, _, _⟩ :: _) _ _); refine wpList_convBlk rfl 48 9 5 (.tmp 41) rfl Tryz.underlying48 Tryz.underlying5 Tryz.underlying9 _ 1 1 (by rfl) _ _ (Blk.new _ _ _) [cB] rfl HCV.out ?_)
      go_returns
      exact ⟨by rw [HDM.out]; rfl, HB9.out⟩
set_option maxHeartbeats 4000000 in
set_option maxRecDepth 100000 in
theorem digitsNeg_calls : ∀ (k M : Nat), M ≤ k → 1 ≤ M → M ≤ 9223372036854775808 → ∀ (w : World),
    Calls Tryz.prog 109 #[.int .i64 (-(M : Int))] w fun e w' => e = .returned (.string (str (decT (-(M : Int))))) ∧ Below w.heap.size w w'
  | 0, M, h, h1, _, w => by omega
  | k + 1, M, h, h1, h2, w => by
    have hL := digR_len20 M h2
    have h0 : -(M : Int) < 0 := by omega
    obtain ⟨cB, hcB⟩ : ∃ c : UInt8, c = UInt8.ofNat (48 + M % 10) := ⟨_, rfl⟩
    have HCB := Lib.hid hcB
    have HCV : Hid ((#[Value.int .u8 (48 + (M : Int) % 10)] : Array Value).toList.take 1 = [cB].map bv) := by
      show [Value.int .u8 _] = [Value.int .u8 ((cB.toNat : Nat) : Int)]
      rw [hcB]
      congr 2
      simp
      omega
    have HS : Hid (decT (-(M : Int)) = 45 :: (digR M).reverse) := by show _ = _; unfold decT; rw [if_pos h0, show (-(M : Int)).natAbs = M by omega]
    have HB9 := Lib.hid (below_alloc1 w (.cells #[Value.int .u8 (48 + (M : Int) % 10)] 5))
    clear hcB
    by_cases e : M / 10 = 0
    · have e0 : (-((M : Int) / 10) == 0) = true := by rw [beq_iff_eq]; omega
      have HDM : Hid (decT (-(M : Int)) = [45] ++ [cB]) := by show _ = _; rw [HS.out, digR_last M e, HCB.out]; rfl
      go_enter Tryz.func109, Tryz.ntmps109
      go_wp2_with ((with_reducible show wpList _ _ _ (⟨some 15, _, _, _, _, _⟩ :: _) _ _); refine wpList_convBlk rfl 48 9 5 (.tmp 14) rfl Tryz.underlying48 Tryz.underlying5 Tryz.underlying9 _ 1 1 (by rfl) _ _ (Blk.new _ _ _) [cB] rfl HCV.out ?_)
      go_returns
      exact ⟨by rw [HDM.out]; rfl, HB9.out⟩
    · have e0 : (-((M : Int) / 10) == 0) = false := by rw [beq_eq_false_iff_ne]; omega
      have IH := fun y => digitsNeg_calls k (M / 10) (by omega) (by omega) (by omega) y
      have HDM : Hid (decT (-(M : Int)) = decT (-((M / 10 : Nat) : Int)) ++ [cB]) := by
        show _ = _
        rw [HS.out, digR_more M e, HCB.out, List.reverse_cons]
        unfold decT
        rw [if_pos (by omega), show (-((M / 10 : Nat) : Int)).natAbs = M / 10 by omega]
        rfl
      have hlx : (decT (-((M / 10 : Nat) : Int))).length ≤ 20 := by
        have h := congrArg List.length HDM.out
        rw [HS.out] at h
        simp only [List.length_cons, List.length_reverse, List.length_append, List.length_nil] at h
        omega
      rw [show (-((M / 10 : Nat) : Int)) = -((M : Int) / 10) by omega] at HDM hlx IH
      go_enter Tryz.func109, Tryz.ntmps109
      go_wp2_with ((with_reducible show wpList _ _ _ (⟨some 15, _, _, _, _, _⟩ :: _) _ _); refine wpList_convBlk rfl 48 9 5 (.tmp 14) rfl Tryz.underlying48 Tryz.underlying5 Tryz.underlying9 _ 1 1 (by rfl) _ _ (Blk.new _ _ _) [cB] rfl HCV.out ?_)
      refine (IH _).mono ?_
      rintro e w5 ⟨rfl, b5⟩
      have HB5 := Lib.hid (HB9.out.trans (b5.mono HB9.out.size))
      clear b5 HB9 IH
      go_wp2_with fail
      go_returns
      exact ⟨by rw [HDM.out]; rfl, HB5.out⟩
theorem digits_calls (n : Int) (w : World) (h1 : -9223372036854775808 ≤ n) (h2 : n ≤ 9223372036854775807) :
    Calls Tryz.prog 109 #[.int .i64 n] w fun e w' => e = .returned (.string (str (decT n))) ∧ Below w.heap.size w w' := by
  by_cases h0 : n < 0
  · obtain ⟨M, rfl⟩ : ∃ M : Nat, n = -(M : Int) := ⟨n.natAbs, by omega⟩
    exact digitsNeg_calls M M (Nat.le_refl _) (by omega) (by omega) w
  · obtain ⟨M, rfl⟩ : ∃ M : Nat, n = (M : Int) := ⟨n.toNat, by omega⟩
    exact digitsPos_calls M w (by omega)
end Go.Proofs.YtjlpdbaknhbgdaaGreat
set_option linter.unusedSimpArgs false
set_option linter.unusedVariables false
namespace Go.Proofs
open Go.Shelf Go.Lib
shelf_lay Lays.n156 Nm 156 at Tryz as Tryz.laysJoin
theorem Tryz.extraJoin : Builder.Extra Tryz.prog Tryz.laysJoin_ren where
  sizeBuilder := by kernel_rfl
  liesBuilder := by kernel_rfl
  t5 := by kernel_rfl
  a5 := Tryz.isAgg5
  z5 := Tryz.sizeOf5
  v5 := fun w => by kernel_rfl
  infoByte := by kernel_rfl
  cellsByte := by kernel_rfl
  sizeByte := by kernel_rfl
  neB5 := by decide
end Go.Proofs
namespace Go.Proofs.YtjlpdbaknhbgdaaGreat
open Go.RowKit

def noteL : List UInt8 := [110, 111, 116, 101]
def nameT (h : List UInt8) (a g : Int) : List UInt8 := noteL ++ ([32] ++ (hexT h ++ ([32] ++ (decT a ++ ([32] ++ decT g)))))
theorem decT_len (n : Int) (h1 : -9223372036854775808 ≤ n) (h2 : n ≤ 9223372036854775807) : (decT n).length ≤ 20 := by
  have := digR_len20 n.natAbs (by omega)
  unfold decT
  split <;> simp <;> omega
theorem Join4_calls (q : Nat) (a b c d : List UInt8) (w : World) (h : Blk w q #[.string (str a), .string (str b), .string (str c), .string (str d)] 9) (hl : a.length + b.length + c.length + d.length ≤ 1000) :
    Calls Tryz.prog 106 #[.slice (some ⟨q, 0, none⟩) 4 4, .string ⟨#[32]⟩] w fun e w' => e = .returned (.string (str (a ++ ([32] ++ (b ++ ([32] ++ (c ++ ([32] ++ d)))))))) ∧ Below w.heap.size w w' := by
  have cJ := Any.strings_Join Tryz.laysJoin Tryz.extraJoin q 0 4 [str a, str b, str c, str d] ⟨#[32]⟩ w (fun j x hj => by
    rw [Nat.zero_add]
    refine h.cell j _ ?_
    match j, hj with
    | 0, hj => obtain rfl := Option.some.inj hj; rfl
    | 1, hj => obtain rfl := Option.some.inj hj; rfl
    | 2, hj => obtain rfl := Option.some.inj hj; rfl
    | 3, hj => obtain rfl := Option.some.inj hj; rfl) h.lt (by simp) (by simp) (by simp [Lib.join, str]; omega)
  change Calls Tryz.prog 106 _ _ _ at cJ
  have e : Lib.join ([str a, str b, str c, str d].map (·.data.toList)) (ByteArray.mk #[32]).data.toList = a ++ ([32] ++ (b ++ ([32] ++ (c ++ ([32] ++ d))))) := by simp [Lib.join, str]
  rw [e] at cJ
  exact cJ
set_option maxHeartbeats 4000000 in
set_option maxRecDepth 100000 in
theorem Name_calls (h : List UInt8) (a g : Int) (w : World) (hh : h.length = 32) (a1 : -9223372036854775808 ≤ a) (a2 : a ≤ 9223372036854775807) (g1 : -9223372036854775808 ≤ g) (g2 : g ≤ 9223372036854775807) :
    Calls Tryz.prog 35 #[.agg (h.map bv).toArray, .int .i64 a, .int .i64 g] w fun e w' => e = .returned (.string (str (nameT h a g))) ∧ Below w.heap.size w w' := by
  have HH := Lib.hid hh
  have hA0 : Blk (w.alloc (.cells (h.map bv).toArray 23)) w.heap.size (h.map bv).toArray 23 := Blk.new _ _ _
  have hb0 : Below w.heap.size w (w.alloc (.cells (h.map bv).toArray 23)) := below_alloc1 _ _
  have la := decT_len a a1 a2
  have lg := decT_len g g1 g2
  have lh : (hexT h).length = 64 := by rw [hexT_len, hh]
  have cH : Hid (∀ x, Calls Tryz.prog 30 #[.agg (h.map bv).toArray] x fun e w' => e = .returned (.string (str (hexT h))) ∧ Below x.heap.size x w') := fun x => Hex_calls h x hh
  have cA : Hid (∀ x, Calls Tryz.prog 107 #[.int .i64 a] x fun e w' => e = .returned (.string (str (decT a))) ∧ Below x.heap.size x w') := fun x => dec_calls a x a1 a2
  have cG : Hid (∀ x, Calls Tryz.prog 107 #[.int .i64 g] x fun e w' => e = .returned (.string (str (decT g))) ∧ Below x.heap.size x w') := fun x => dec_calls g x g1 g2
  have HN : Hid (nameT h a g = noteL ++ ([32] ++ (hexT h ++ ([32] ++ (decT a ++ ([32] ++ decT g)))))) := rfl
  generalize nameT h a g = R at HN ⊢
  generalize hexT h = X at cH lh HN
  generalize decT a = A at cA la HN
  generalize decT g = G at cG lg HN
  clear hh a1 a2 g1 g2
  go_enter Tryz.func35, Tryz.ntmps35
  go_wp2_with ((with_reducible show wpList _ _ _ (⟨some 7, _, _, _, _, _⟩ :: _) _ _); refine wpList_loadBlk rfl 23 (.tmp 3) rfl w.heap.size (by rfl) _ _ _ hA0 Tryz.underlying23 rfl (by rw [bv_size, HH.out]; exact Tryz.sizeHash) ?_)
  refine (cH.out _).mono ?_
  rintro e w1 ⟨rfl, b1⟩
  have HB1 := Lib.hid (hb0.trans (b1.mono hb0.size))
  clear b1 hb0 hA0 cH
  go_wp2_with fail
  refine (cA.out _).mono ?_
  rintro e w2 ⟨rfl, b2⟩
  have HB2 := Lib.hid (HB1.out.trans (b2.mono HB1.out.size))
  clear b2 HB1 cA
  go_wp2_with fail
  refine (cG.out _).mono ?_
  rintro e w3 ⟨rfl, b3⟩
  have HB3 := Lib.hid (HB2.out.trans (b3.mono HB2.out.size))
  clear b3 HB2 cG
  go_wp2_with fail
  refine (Join4_calls w3.heap.size noteL X A G _ (Blk.new _ _ _) (by show 4 + _ + _ + _ ≤ _; omega)).mono ?_
  rintro e w4 ⟨rfl, b4⟩
  have HB4 := Lib.hid ((HB3.out.alloc HB3.out.size (.cells #[.string (str noteL), .string (str X), .string (str A), .string (str G)] 9)).trans (b4.mono (by have := HB3.out.size; simp; omega)))
  clear b4 HB3
  go_wp2_with fail
  go_returns
  exact ⟨by rw [HN.out]; rfl, HB4.out⟩
set_option maxHeartbeats 4000000 in
set_option maxRecDepth 100000 in
theorem RName_calls (h : List UInt8) (a g : Int) (w : World) (hh : h.length = 32) (a1 : -9223372036854775808 ≤ a) (a2 : a ≤ 9223372036854775807) (g1 : -9223372036854775808 ≤ g) (g2 : g ≤ 9223372036854775807) :
    Calls Tryz.prog 36 #[.agg (h.map bv).toArray, .int .i64 a, .int .i64 g] w fun e w' => e = .returned (.string (str (nameT h a g))) ∧ Below w.heap.size w w' := by
  have HH := Lib.hid hh
  have hA0 : Blk (w.alloc (.cells (h.map bv).toArray 23)) w.heap.size (h.map bv).toArray 23 := Blk.new _ _ _
  have hb0 : Below w.heap.size w (w.alloc (.cells (h.map bv).toArray 23)) := below_alloc1 _ _
  have la := decT_len a a1 a2
  have lg := decT_len g g1 g2
  have lh : (hexT h).length = 64 := by rw [hexT_len, hh]
  have cH : Hid (∀ x, Calls Tryz.prog 108 #[.agg (h.map bv).toArray] x fun e w' => e = .returned (.string (str (hexT h))) ∧ Below x.heap.size x w') := fun x => RHex_calls h x hh
  have cA : Hid (∀ x, Calls Tryz.prog 109 #[.int .i64 a] x fun e w' => e = .returned (.string (str (decT a))) ∧ Below x.heap.size x w') := fun x => digits_calls a x a1 a2
  have cG : Hid (∀ x, Calls Tryz.prog 109 #[.int .i64 g] x fun e w' => e = .returned (.string (str (decT g))) ∧ Below x.heap.size x w') := fun x => digits_calls g x g1 g2
  have HN : Hid (nameT h a g = noteL ++ ([32] ++ (hexT h ++ ([32] ++ (decT a ++ ([32] ++ decT g)))))) := rfl
  generalize nameT h a g = R at HN ⊢
  generalize hexT h = X at cH lh HN
  generalize decT a = A at cA la HN
  generalize decT g = G at cG lg HN
  clear hh a1 a2 g1 g2
  go_enter Tryz.func36, Tryz.ntmps36
  go_wp2_with ((with_reducible show wpList _ _ _ (⟨some 7, _, _, _, _, _⟩ :: _) _ _); refine wpList_loadBlk rfl 23 (.tmp 3) rfl w.heap.size (by rfl) _ _ _ hA0 Tryz.underlying23 rfl (by rw [bv_size, HH.out]; exact Tryz.sizeHash) ?_)
  refine (cH.out _).mono ?_
  rintro e w1 ⟨rfl, b1⟩
  have HB1 := Lib.hid (hb0.trans (b1.mono hb0.size))
  clear b1 hb0 hA0 cH
  go_wp2_with fail
  refine (cA.out _).mono ?_
  rintro e w2 ⟨rfl, b2⟩
  have HB2 := Lib.hid (HB1.out.trans (b2.mono HB1.out.size))
  clear b2 HB1 cA
  go_wp2_with fail
  refine (cG.out _).mono ?_
  rintro e w3 ⟨rfl, b3⟩
  have HB3 := Lib.hid (HB2.out.trans (b3.mono HB2.out.size))
  clear b3 HB2 cG
  go_wp2_with fail
  go_returns
  exact ⟨by rw [HN.out]; show Ending.returned (.string (str [110, 111, 116, 101, 32] ++ str X ++ str [32] ++ str A ++ str [32] ++ str G)) = _; simp only [str_append]; simp [noteL], HB3.out⟩
end Go.Proofs.YtjlpdbaknhbgdaaGreat
set_option linter.unusedSimpArgs false
set_option linter.unusedVariables false
namespace Go.Proofs.YtjlpdbaknhbgdaaGreat
open Go.RowKit

/-- A note. -/
structure NoteA where
  h : List UInt8
  d : Int
  a : Int
  g : Int
  s : List UInt8
  hh : h.length = 32
def NoteA.cells (n : NoteA) : List Value := n.h.map bv ++ [.int .i64 n.d, .int .i64 n.a, .int .i64 n.g, .string (str n.s)]
theorem NoteA.cells_len (n : NoteA) : n.cells.length = 36 := by simp [NoteA.cells, n.hh]
def rightN (n : NoteA) : Bool := decide (0 ≤ n.d) && (decide (n.d ≤ 4611686018427387903) && (decide (1 ≤ n.a) && (decide (n.a ≤ 64) && (decide (0 ≤ n.g) && (decide (n.g ≤ 255) && decide (n.s.length ≤ 1040))))))
theorem rightN_true {n : NoteA} (h : rightN n = true) : 0 ≤ n.d ∧ n.d ≤ 4611686018427387903 ∧ 1 ≤ n.a ∧ n.a ≤ 64 ∧ 0 ≤ n.g ∧ n.g ≤ 255 ∧ n.s.length ≤ 1040 := by
  unfold rightN at h
  simp only [Bool.and_eq_true, decide_eq_true_eq] at h
  exact h
theorem note_d (n : NoteA) : n.cells.toArray[32]? = some (.int .i64 n.d) := by rw [List.getElem?_toArray, NoteA.cells, List.getElem?_append_right (by simp [n.hh])]; simp [n.hh]
theorem note_a (n : NoteA) : n.cells.toArray[33]? = some (.int .i64 n.a) := by rw [List.getElem?_toArray, NoteA.cells, List.getElem?_append_right (by simp [n.hh])]; simp [n.hh]
theorem note_g (n : NoteA) : n.cells.toArray[34]? = some (.int .i64 n.g) := by rw [List.getElem?_toArray, NoteA.cells, List.getElem?_append_right (by simp [n.hh])]; simp [n.hh]
theorem note_s (n : NoteA) : n.cells.toArray[35]? = some (.string (str n.s)) := by rw [List.getElem?_toArray, NoteA.cells, List.getElem?_append_right (by simp [n.hh])]; simp [n.hh]
theorem note_h {w : World} {g : Nat} {n : NoteA} {t : TypeId} (h : Blk w g n.cells.toArray t) : w.rangeAt g 0 (n.h.map bv) := by
  have := range_mid (A := []) (B := n.h.map bv) (C := [.int .i64 n.d, .int .i64 n.a, .int .i64 n.g, .string (str n.s)]) (blk_rangeP h) rfl
  exact this
set_option maxHeartbeats 4000000 in
set_option maxRecDepth 100000 in
theorem NRight_calls (n : NoteA) (w : World) : Calls Tryz.prog 37 #[.agg n.cells.toArray] w fun e w' => e = .returned (.bool (rightN n)) ∧ Below w.heap.size w w' := by
  have hA0 : Blk (w.alloc (.cells n.cells.toArray 86)) w.heap.size n.cells.toArray 86 := Blk.new _ _ _
  have hb0 : Below w.heap.size w (w.alloc (.cells n.cells.toArray 86)) := below_alloc1 _ _
  have hd := hA0.cell 32 _ (note_d n)
  have ha := hA0.cell 33 _ (note_a n)
  have hg := hA0.cell 34 _ (note_g n)
  have hs := hA0.cell 35 _ (note_s n)
  obtain ⟨R, hR⟩ : ∃ R, R = rightN n := ⟨_, rfl⟩
  have HR := Lib.hid hR
  rw [← hR]
  clear hA0 hR
  by_cases c0 : 0 ≤ n.d
  case neg =>
    have HF : Hid (R = false) := by
      show _ = _
      rw [HR.out, Bool.eq_false_iff]
      intro e
      have := rightN_true e
      omega
    go_enter Tryz.func37, Tryz.ntmps37
    go_wp2_with (first | ((with_reducible show wpList _ _ _ (⟨some 4, _, _, _, _, _⟩ :: _) _ _); refine wpList_load1 rfl 3 (.tmp 3) rfl w.heap.size 32 (by rfl) _ _ hd Tryz.underlying3 rfl ?_) | ((with_reducible show wpList _ _ _ (⟨some 8, _, _, _, _, _⟩ :: _) _ _); refine wpList_if (by rfl) (wp_load1 3 (.tmp 7) rfl w.heap.size 32 (by rfl) _ _ hd Tryz.underlying3 rfl ?_)) | ((with_reducible show wpList _ _ _ (⟨some 13, _, _, _, _, _⟩ :: _) _ _); refine wpList_if (by rfl) (wp_load1 3 (.tmp 12) rfl w.heap.size 33 (by rfl) _ _ ha Tryz.underlying3 rfl ?_)) | ((with_reducible show wpList _ _ _ (⟨some 18, _, _, _, _, _⟩ :: _) _ _); refine wpList_if (by rfl) (wp_load1 3 (.tmp 17) rfl w.heap.size 33 (by rfl) _ _ ha Tryz.underlying3 rfl ?_)) | ((with_reducible show wpList _ _ _ (⟨some 23, _, _, _, _, _⟩ :: _) _ _); refine wpList_if (by rfl) (wp_load1 3 (.tmp 22) rfl w.heap.size 34 (by rfl) _ _ hg Tryz.underlying3 rfl ?_)) | ((with_reducible show wpList _ _ _ (⟨some 28, _, _, _, _, _⟩ :: _) _ _); refine wpList_if (by rfl) (wp_load1 3 (.tmp 27) rfl w.heap.size 34 (by rfl) _ _ hg Tryz.underlying3 rfl ?_)) | ((with_reducible show wpList _ _ _ (⟨some 33, _, _, _, _, _⟩ :: _) _ _); refine wpList_if (by rfl) (wp_load1 9 (.tmp 32) rfl w.heap.size 35 (by rfl) _ _ hs Tryz.underlying9 rfl ?_)))
    go_returns
    exact ⟨by rw [HF.out]; rfl, hb0⟩
  by_cases c1 : n.d ≤ 4611686018427387903
  case neg =>
    have HF : Hid (R = false) := by
      show _ = _
      rw [HR.out, Bool.eq_false_iff]
      intro e
      have := rightN_true e
      omega
    go_enter Tryz.func37, Tryz.ntmps37
    go_wp2_with (first | ((with_reducible show wpList _ _ _ (⟨some 4, _, _, _, _, _⟩ :: _) _ _); refine wpList_load1 rfl 3 (.tmp 3) rfl w.heap.size 32 (by rfl) _ _ hd Tryz.underlying3 rfl ?_) | ((with_reducible show wpList _ _ _ (⟨some 8, _, _, _, _, _⟩ :: _) _ _); refine wpList_if (by rfl) (wp_load1 3 (.tmp 7) rfl w.heap.size 32 (by rfl) _ _ hd Tryz.underlying3 rfl ?_)) | ((with_reducible show wpList _ _ _ (⟨some 13, _, _, _, _, _⟩ :: _) _ _); refine wpList_if (by rfl) (wp_load1 3 (.tmp 12) rfl w.heap.size 33 (by rfl) _ _ ha Tryz.underlying3 rfl ?_)) | ((with_reducible show wpList _ _ _ (⟨some 18, _, _, _, _, _⟩ :: _) _ _); refine wpList_if (by rfl) (wp_load1 3 (.tmp 17) rfl w.heap.size 33 (by rfl) _ _ ha Tryz.underlying3 rfl ?_)) | ((with_reducible show wpList _ _ _ (⟨some 23, _, _, _, _, _⟩ :: _) _ _); refine wpList_if (by rfl) (wp_load1 3 (.tmp 22) rfl w.heap.size 34 (by rfl) _ _ hg Tryz.underlying3 rfl ?_)) | ((with_reducible show wpList _ _ _ (⟨some 28, _, _, _, _, _⟩ :: _) _ _); refine wpList_if (by rfl) (wp_load1 3 (.tmp 27) rfl w.heap.size 34 (by rfl) _ _ hg Tryz.underlying3 rfl ?_)) | ((with_reducible show wpList _ _ _ (⟨some 33, _, _, _, _, _⟩ :: _) _ _); refine wpList_if (by rfl) (wp_load1 9 (.tmp 32) rfl w.heap.size 35 (by rfl) _ _ hs Tryz.underlying9 rfl ?_)))
    go_returns
    exact ⟨by rw [HF.out]; rfl, hb0⟩
  by_cases c2 : 1 ≤ n.a
  case neg =>
    have HF : Hid (R = false) := by
      show _ = _
      rw [HR.out, Bool.eq_false_iff]
      intro e
      have := rightN_true e
      omega
    go_enter Tryz.func37, Tryz.ntmps37
    go_wp2_with (first | ((with_reducible show wpList _ _ _ (⟨some 4, _, _, _, _, _⟩ :: _) _ _); refine wpList_load1 rfl 3 (.tmp 3) rfl w.heap.size 32 (by rfl) _ _ hd Tryz.underlying3 rfl ?_) | ((with_reducible show wpList _ _ _ (⟨some 8, _, _, _, _, _⟩ :: _) _ _); refine wpList_if (by rfl) (wp_load1 3 (.tmp 7) rfl w.heap.size 32 (by rfl) _ _ hd Tryz.underlying3 rfl ?_)) | ((with_reducible show wpList _ _ _ (⟨some 13, _, _, _, _, _⟩ :: _) _ _); refine wpList_if (by rfl) (wp_load1 3 (.tmp 12) rfl w.heap.size 33 (by rfl) _ _ ha Tryz.underlying3 rfl ?_)) | ((with_reducible show wpList _ _ _ (⟨some 18, _, _, _, _, _⟩ :: _) _ _); refine wpList_if (by rfl) (wp_load1 3 (.tmp 17) rfl w.heap.size 33 (by rfl) _ _ ha Tryz.underlying3 rfl ?_)) | ((with_reducible show wpList _ _ _ (⟨some 23, _, _, _, _, _⟩ :: _) _ _); refine wpList_if (by rfl) (wp_load1 3 (.tmp 22) rfl w.heap.size 34 (by rfl) _ _ hg Tryz.underlying3 rfl ?_)) | ((with_reducible show wpList _ _ _ (⟨some 28, _, _, _, _, _⟩ :: _) _ _); refine wpList_if (by rfl) (wp_load1 3 (.tmp 27) rfl w.heap.size 34 (by rfl) _ _ hg Tryz.underlying3 rfl ?_)) | ((with_reducible show wpList _ _ _ (⟨some 33, _, _, _, _, _⟩ :: _) _ _); refine wpList_if (by rfl) (wp_load1 9 (.tmp 32) rfl w.heap.size 35 (by rfl) _ _ hs Tryz.underlying9 rfl ?_)))
    go_returns
    exact ⟨by rw [HF.out]; rfl, hb0⟩
  by_cases c3 : n.a ≤ 64
  case neg =>
    have HF : Hid (R = false) := by
      show _ = _
      rw [HR.out, Bool.eq_false_iff]
      intro e
      have := rightN_true e
      omega
    go_enter Tryz.func37, Tryz.ntmps37
    go_wp2_with (first | ((with_reducible show wpList _ _ _ (⟨some 4, _, _, _, _, _⟩ :: _) _ _); refine wpList_load1 rfl 3 (.tmp 3) rfl w.heap.size 32 (by rfl) _ _ hd Tryz.underlying3 rfl ?_) | ((with_reducible show wpList _ _ _ (⟨some 8, _, _, _, _, _⟩ :: _) _ _); refine wpList_if (by rfl) (wp_load1 3 (.tmp 7) rfl w.heap.size 32 (by rfl) _ _ hd Tryz.underlying3 rfl ?_)) | ((with_reducible show wpList _ _ _ (⟨some 13, _, _, _, _, _⟩ :: _) _ _); refine wpList_if (by rfl) (wp_load1 3 (.tmp 12) rfl w.heap.size 33 (by rfl) _ _ ha Tryz.underlying3 rfl ?_)) | ((with_reducible show wpList _ _ _ (⟨some 18, _, _, _, _, _⟩ :: _) _ _); refine wpList_if (by rfl) (wp_load1 3 (.tmp 17) rfl w.heap.size 33 (by rfl) _ _ ha Tryz.underlying3 rfl ?_)) | ((with_reducible show wpList _ _ _ (⟨some 23, _, _, _, _, _⟩ :: _) _ _); refine wpList_if (by rfl) (wp_load1 3 (.tmp 22) rfl w.heap.size 34 (by rfl) _ _ hg Tryz.underlying3 rfl ?_)) | ((with_reducible show wpList _ _ _ (⟨some 28, _, _, _, _, _⟩ :: _) _ _); refine wpList_if (by rfl) (wp_load1 3 (.tmp 27) rfl w.heap.size 34 (by rfl) _ _ hg Tryz.underlying3 rfl ?_)) | ((with_reducible show wpList _ _ _ (⟨some 33, _, _, _, _, _⟩ :: _) _ _); refine wpList_if (by rfl) (wp_load1 9 (.tmp 32) rfl w.heap.size 35 (by rfl) _ _ hs Tryz.underlying9 rfl ?_)))
    go_returns
    exact ⟨by rw [HF.out]; rfl, hb0⟩
  by_cases c4 : 0 ≤ n.g
  case neg =>
    have HF : Hid (R = false) := by
      show _ = _
      rw [HR.out, Bool.eq_false_iff]
      intro e
      have := rightN_true e
      omega
    go_enter Tryz.func37, Tryz.ntmps37
    go_wp2_with (first | ((with_reducible show wpList _ _ _ (⟨some 4, _, _, _, _, _⟩ :: _) _ _); refine wpList_load1 rfl 3 (.tmp 3) rfl w.heap.size 32 (by rfl) _ _ hd Tryz.underlying3 rfl ?_) | ((with_reducible show wpList _ _ _ (⟨some 8, _, _, _, _, _⟩ :: _) _ _); refine wpList_if (by rfl) (wp_load1 3 (.tmp 7) rfl w.heap.size 32 (by rfl) _ _ hd Tryz.underlying3 rfl ?_)) | ((with_reducible show wpList _ _ _ (⟨some 13, _, _, _, _, _⟩ :: _) _ _); refine wpList_if (by rfl) (wp_load1 3 (.tmp 12) rfl w.heap.size 33 (by rfl) _ _ ha Tryz.underlying3 rfl ?_)) | ((with_reducible show wpList _ _ _ (⟨some 18, _, _, _, _, _⟩ :: _) _ _); refine wpList_if (by rfl) (wp_load1 3 (.tmp 17) rfl w.heap.size 33 (by rfl) _ _ ha Tryz.underlying3 rfl ?_)) | ((with_reducible show wpList _ _ _ (⟨some 23, _, _, _, _, _⟩ :: _) _ _); refine wpList_if (by rfl) (wp_load1 3 (.tmp 22) rfl w.heap.size 34 (by rfl) _ _ hg Tryz.underlying3 rfl ?_)) | ((with_reducible show wpList _ _ _ (⟨some 28, _, _, _, _, _⟩ :: _) _ _); refine wpList_if (by rfl) (wp_load1 3 (.tmp 27) rfl w.heap.size 34 (by rfl) _ _ hg Tryz.underlying3 rfl ?_)) | ((with_reducible show wpList _ _ _ (⟨some 33, _, _, _, _, _⟩ :: _) _ _); refine wpList_if (by rfl) (wp_load1 9 (.tmp 32) rfl w.heap.size 35 (by rfl) _ _ hs Tryz.underlying9 rfl ?_)))
    go_returns
    exact ⟨by rw [HF.out]; rfl, hb0⟩
  by_cases c5 : n.g < 256
  case neg =>
    have HF : Hid (R = false) := by
      show _ = _
      rw [HR.out, Bool.eq_false_iff]
      intro e
      have := rightN_true e
      omega
    go_enter Tryz.func37, Tryz.ntmps37
    go_wp2_with (first | ((with_reducible show wpList _ _ _ (⟨some 4, _, _, _, _, _⟩ :: _) _ _); refine wpList_load1 rfl 3 (.tmp 3) rfl w.heap.size 32 (by rfl) _ _ hd Tryz.underlying3 rfl ?_) | ((with_reducible show wpList _ _ _ (⟨some 8, _, _, _, _, _⟩ :: _) _ _); refine wpList_if (by rfl) (wp_load1 3 (.tmp 7) rfl w.heap.size 32 (by rfl) _ _ hd Tryz.underlying3 rfl ?_)) | ((with_reducible show wpList _ _ _ (⟨some 13, _, _, _, _, _⟩ :: _) _ _); refine wpList_if (by rfl) (wp_load1 3 (.tmp 12) rfl w.heap.size 33 (by rfl) _ _ ha Tryz.underlying3 rfl ?_)) | ((with_reducible show wpList _ _ _ (⟨some 18, _, _, _, _, _⟩ :: _) _ _); refine wpList_if (by rfl) (wp_load1 3 (.tmp 17) rfl w.heap.size 33 (by rfl) _ _ ha Tryz.underlying3 rfl ?_)) | ((with_reducible show wpList _ _ _ (⟨some 23, _, _, _, _, _⟩ :: _) _ _); refine wpList_if (by rfl) (wp_load1 3 (.tmp 22) rfl w.heap.size 34 (by rfl) _ _ hg Tryz.underlying3 rfl ?_)) | ((with_reducible show wpList _ _ _ (⟨some 28, _, _, _, _, _⟩ :: _) _ _); refine wpList_if (by rfl) (wp_load1 3 (.tmp 27) rfl w.heap.size 34 (by rfl) _ _ hg Tryz.underlying3 rfl ?_)) | ((with_reducible show wpList _ _ _ (⟨some 33, _, _, _, _, _⟩ :: _) _ _); refine wpList_if (by rfl) (wp_load1 9 (.tmp 32) rfl w.heap.size 35 (by rfl) _ _ hs Tryz.underlying9 rfl ?_)))
    go_returns
    exact ⟨by rw [HF.out]; rfl, hb0⟩
  by_cases c6 : n.s.length ≤ 1040
  case neg =>
    have HF : Hid (R = false) := by
      show _ = _
      rw [HR.out, Bool.eq_false_iff]
      intro e
      have := rightN_true e
      omega
    go_enter Tryz.func37, Tryz.ntmps37
    go_wp2_with (first | ((with_reducible show wpList _ _ _ (⟨some 4, _, _, _, _, _⟩ :: _) _ _); refine wpList_load1 rfl 3 (.tmp 3) rfl w.heap.size 32 (by rfl) _ _ hd Tryz.underlying3 rfl ?_) | ((with_reducible show wpList _ _ _ (⟨some 8, _, _, _, _, _⟩ :: _) _ _); refine wpList_if (by rfl) (wp_load1 3 (.tmp 7) rfl w.heap.size 32 (by rfl) _ _ hd Tryz.underlying3 rfl ?_)) | ((with_reducible show wpList _ _ _ (⟨some 13, _, _, _, _, _⟩ :: _) _ _); refine wpList_if (by rfl) (wp_load1 3 (.tmp 12) rfl w.heap.size 33 (by rfl) _ _ ha Tryz.underlying3 rfl ?_)) | ((with_reducible show wpList _ _ _ (⟨some 18, _, _, _, _, _⟩ :: _) _ _); refine wpList_if (by rfl) (wp_load1 3 (.tmp 17) rfl w.heap.size 33 (by rfl) _ _ ha Tryz.underlying3 rfl ?_)) | ((with_reducible show wpList _ _ _ (⟨some 23, _, _, _, _, _⟩ :: _) _ _); refine wpList_if (by rfl) (wp_load1 3 (.tmp 22) rfl w.heap.size 34 (by rfl) _ _ hg Tryz.underlying3 rfl ?_)) | ((with_reducible show wpList _ _ _ (⟨some 28, _, _, _, _, _⟩ :: _) _ _); refine wpList_if (by rfl) (wp_load1 3 (.tmp 27) rfl w.heap.size 34 (by rfl) _ _ hg Tryz.underlying3 rfl ?_)) | ((with_reducible show wpList _ _ _ (⟨some 33, _, _, _, _, _⟩ :: _) _ _); refine wpList_if (by rfl) (wp_load1 9 (.tmp 32) rfl w.heap.size 35 (by rfl) _ _ hs Tryz.underlying9 rfl ?_)))
    go_returns
    exact ⟨by rw [HF.out]; show Ending.returned (.bool (decide ((n.s.length : Int) ≤ 1040))) = _; rw [decide_eq_false (by omega)], hb0⟩
  have HF : Hid (R = true) := by
    show _ = _
    rw [HR.out]
    unfold rightN
    rw [decide_eq_true c0, decide_eq_true c1, decide_eq_true c2, decide_eq_true c3, decide_eq_true c4, decide_eq_true (show n.g ≤ 255 by omega), decide_eq_true c6]
    rfl
  go_enter Tryz.func37, Tryz.ntmps37
  go_wp2_with (first | ((with_reducible show wpList _ _ _ (⟨some 4, _, _, _, _, _⟩ :: _) _ _); refine wpList_load1 rfl 3 (.tmp 3) rfl w.heap.size 32 (by rfl) _ _ hd Tryz.underlying3 rfl ?_) | ((with_reducible show wpList _ _ _ (⟨some 8, _, _, _, _, _⟩ :: _) _ _); refine wpList_if (by rfl) (wp_load1 3 (.tmp 7) rfl w.heap.size 32 (by rfl) _ _ hd Tryz.underlying3 rfl ?_)) | ((with_reducible show wpList _ _ _ (⟨some 13, _, _, _, _, _⟩ :: _) _ _); refine wpList_if (by rfl) (wp_load1 3 (.tmp 12) rfl w.heap.size 33 (by rfl) _ _ ha Tryz.underlying3 rfl ?_)) | ((with_reducible show wpList _ _ _ (⟨some 18, _, _, _, _, _⟩ :: _) _ _); refine wpList_if (by rfl) (wp_load1 3 (.tmp 17) rfl w.heap.size 33 (by rfl) _ _ ha Tryz.underlying3 rfl ?_)) | ((with_reducible show wpList _ _ _ (⟨some 23, _, _, _, _, _⟩ :: _) _ _); refine wpList_if (by rfl) (wp_load1 3 (.tmp 22) rfl w.heap.size 34 (by rfl) _ _ hg Tryz.underlying3 rfl ?_)) | ((with_reducible show wpList _ _ _ (⟨some 28, _, _, _, _, _⟩ :: _) _ _); refine wpList_if (by rfl) (wp_load1 3 (.tmp 27) rfl w.heap.size 34 (by rfl) _ _ hg Tryz.underlying3 rfl ?_)) | ((with_reducible show wpList _ _ _ (⟨some 33, _, _, _, _, _⟩ :: _) _ _); refine wpList_if (by rfl) (wp_load1 9 (.tmp 32) rfl w.heap.size 35 (by rfl) _ _ hs Tryz.underlying9 rfl ?_)))
  go_returns
  exact ⟨by rw [HF.out]; show Ending.returned (.bool (decide ((n.s.length : Int) ≤ 1040))) = _; rw [decide_eq_true (by omega)], hb0⟩
end Go.Proofs.YtjlpdbaknhbgdaaGreat
set_option linter.unusedSimpArgs false
set_option linter.unusedVariables false
namespace Go.Proofs.YtjlpdbaknhbgdaaGreat
open Go.RowKit

def headN (n : NoteA) : List UInt8 := n.h ++ (numB n.d.toNat ++ (numB n.a.toNat ++ numB n.g.toNat))
def packN (n : NoteA) : List UInt8 := headN n ++ (numB n.s.length ++ n.s)
theorem headN_len (n : NoteA) : (headN n).length ≤ 56 := by
  have h1 := numB_len n.d.toNat
  have h2 := numB_len n.a.toNat
  have h3 := numB_len n.g.toNat
  simp only [headN, List.length_append, n.hh]; omega
theorem Tryz.sizeNote : (Tryz.prog.info? 86).map (·.size) = some 36 := by kernel_rfl
theorem numB3 (l : List Int) (k : Nat) (hk : k ≤ 3) : ((l.take k).flatMap fun x => numB x.toNat).length ≤ 24 := by
  have h : ∀ l : List Int, (l.flatMap fun x => numB x.toNat).length ≤ 8 * l.length := by
    intro l
    induction l with
    | nil => simp
    | cons a l ih => rw [List.flatMap_cons, List.length_append, List.length_cons]; have := numB_len a.toNat; omega
  have := h (l.take k)
  rw [List.length_take] at this
  omega
set_option maxHeartbeats 4000000 in
set_option maxRecDepth 100000 in
theorem put3_calls (base b q : Nat) (bs : List UInt8) (l : List Int) (w : World) (hW : WriterIs base w b bs false) (hs : base ≤ w.heap.size) (hl : bs.length ≤ 1000000) (h3 : l.length = 3) (hl2 : ∀ x ∈ l, 0 ≤ x ∧ x ≤ 4611686018427387903) (hq : Blk w q (l.map fun x => Value.int .i64 x).toArray 3) :
    Calls Tryz.prog 170 #[.pointer (some ⟨b, 0, none⟩), .slice (some ⟨q, 0, none⟩) 3 3] w fun e w' => e = .returned (.tuple #[]) ∧ WriterIs base w' b (bs ++ l.flatMap fun x => numB x.toNat) false ∧ WK base w w' := by
  have HQ := Lib.hid hq
  have HL := Lib.hid hl2
  have H3 := Lib.hid h3
  have HW0 : Hid (WriterIs base w b (bs ++ (l.take 0).flatMap fun x => numB x.toNat) false) := by show WriterIs _ _ _ _ _; simpa using hW
  have HS := Lib.hid hs
  clear hq hl2 hW hs h3
  go_enter Tryz.func170, Tryz.ntmps170
  go_wp2_with fail
  go_loopw [8] (fun j wr => ∃ i : Nat, i ≤ 3 ∧ j = .int .i64 i ∧ Hid (WriterIs base wr b (bs ++ (l.take i).flatMap fun x => numB x.toNat) false) ∧ Hid (WK base w wr)) (fun j _ => 3 - (intOf j).toNat)
  case atStart => exact ⟨0, by omega, rfl, HW0, Keep.refl _ _ _⟩
  case round =>
    obtain ⟨i, hi, rfl, hW, hK⟩ := hrel
    clear HW0
    by_cases hlt : i < 3
    · obtain ⟨x, hx⟩ : ∃ x, l[i]? = some x := ⟨_, List.getElem?_eq_getElem (by rw [H3.out]; exact hlt)⟩
      have hb := HL.out x (List.mem_of_getElem? hx)
      have hc := (HQ.out.typed hK.out.typed (by decide)).cell i (.int .i64 x) (by rw [List.getElem?_toArray, List.getElem?_map, hx]; rfl)
      have HX : Hid (bs ++ ((l.take (i + 1)).flatMap fun x => numB x.toNat) = (bs ++ (l.take i).flatMap fun x => numB x.toNat) ++ numB x.toNat) := by
        show _ = _
        rw [List.take_add_one, hx, List.flatMap_append]; simp
      clear hx
      go_wp2_with ((with_reducible show wpList _ _ _ (⟨some 11, _, _, _, _, _⟩ :: _) _ _); refine wpList_load1 rfl 3 (.tmp 10) rfl q i (by rfl) _ _ hc Tryz.underlying3 rfl ?_)
      clear hc
      refine (num_calls base b _ false x _ hW.out (Nat.le_trans HS.out hK.out.size) (by have := numB3 l i (by omega); rw [List.length_append]; omega) hb.1 hb.2).mono ?_
      rintro e w2 ⟨rfl, hw2, k2⟩
      have HW2 : Hid (WriterIs base w2 b (bs ++ (l.take (i + 1)).flatMap fun x => numB x.toNat) false) := by show WriterIs _ _ _ _ _; rw [HX.out]; exact hw2
      have HK2 : Hid (WK base w w2) := hK.out.trans k2
      clear hw2 k2 hW hK
      go_wp2_with fail
      go_roundw
      case rel => exact ⟨i + 1, by omega, by go_num, HW2, HK2⟩
      case measure => simp [intOf]; omega
    · obtain rfl : i = 3 := by omega
      go_wp2_with fail
      go_returns
      have h := hW.out
      rw [List.take_of_length_le (Nat.le_of_eq H3.out)] at h
      exact ⟨rfl, h, hK.out⟩
set_option maxHeartbeats 4000000 in
set_option maxRecDepth 100000 in
theorem head_calls (n : NoteA) (w : World) (hr : rightN n = true) :
    Calls Tryz.prog 103 #[.agg n.cells.toArray] w fun e w' => e = .returned (.string (str (headN n))) ∧ Below w.heap.size w w' := by
  have hr := rightN_true hr
  obtain ⟨H1, H2, H3, H4, H5, H6, _⟩ := hr
  have HH : Hid (n.h.length = 32) := n.hh
  have hA0 : Blk (w.alloc (.cells n.cells.toArray 86)) w.heap.size n.cells.toArray 86 := Blk.new _ _ _
  have hb0 : Below w.heap.size w (w.alloc (.cells n.cells.toArray 86)) := below_alloc1 _ _
  have HL : Hid (∀ x ∈ [n.d, n.a, n.g], 0 ≤ x ∧ x ≤ 4611686018427387903) := fun x hx => by simp at hx; rcases hx with rfl | rfl | rfl <;> omega
  have HP : Hid (headN n = [] ++ n.h ++ [n.d, n.a, n.g].flatMap fun x => numB x.toNat) := by show _ = _; simp [headN]
  generalize headN n = R at HP ⊢
  clear H1 H2 H3 H4 H5 H6
  obtain ⟨N, hN⟩ : ∃ N, N = w.heap.size := ⟨_, rfl⟩
  have HN : Hid (N = w.heap.size) := hN
  rw [← hN] at hA0 hb0
  go_enter Tryz.func103, Tryz.ntmps103
  go_upto_region 1 with (fail)
  rw [← hN]
  clear hN
  go_wp2_with fail
  refine (New_calls _).mono ?_
  rintro e w2 ⟨rfl, hw2, b2⟩
  obtain ⟨B, hB⟩ : ∃ B, B = (w.alloc (.cells n.cells.toArray 86)).heap.size := ⟨_, rfl⟩
  rw [← hB] at hw2 b2 ⊢
  have hA2 := hA0.below b2 (by rw [hB]; exact hA0.lt)
  have hNB : N < B := by rw [hB]; exact hA0.lt
  have hB2 := hb0.trans (b2.mono (by omega))
  have hS2 : B ≤ w2.heap.size := by rw [hB]; exact b2.size
  have HW2 := Lib.hid hw2
  have hrh := note_h hA2
  clear hw2 b2 hA0 hb0 hB
  go_wp2_with ((with_reducible show wpList _ _ _ (⟨some 9, _, _, _, _, _⟩ :: _) _ _); refine wpList_load_mid rfl 23 (.tmp 8) rfl N 0 (by rfl) (n.h.map bv) _ hrh Tryz.underlying23 rfl (by rw [List.length_map, HH.out]; exact Tryz.sizeHash) ?_)
  clear hrh
  refine (hash_calls B B [] n.h false _ HW2.out hS2 (by simp) HH.out).mono ?_
  rintro e w3 ⟨rfl, hw3, k3⟩
  have hA3 := hA2.below k3.below hNB
  have hB3 := hB2.trans (k3.below.mono (by omega))
  have hS3 := Nat.le_trans hS2 k3.size
  have HW3 := Lib.hid hw3
  have hd := hA3.cell 32 _ (note_d n)
  have ha := hA3.cell 33 _ (note_a n)
  have hg := hA3.cell 34 _ (note_g n)
  clear hw3 k3 hA2 hB2 hS2 HW2 hA3
  go_wp2_with (first | ((with_reducible show wpList _ _ _ (⟨some 13, _, _, _, _, _⟩ :: _) _ _); refine wpList_load1 rfl 3 (.tmp 12) rfl N 32 (by rfl) _ _ hd Tryz.underlying3 rfl ?_) | ((with_reducible show wpList _ _ _ (⟨some 15, _, _, _, _, _⟩ :: _) _ _); refine wpList_load1 rfl 3 (.tmp 14) rfl N 33 (by rfl) _ _ ha Tryz.underlying3 rfl ?_) | ((with_reducible show wpList _ _ _ (⟨some 17, _, _, _, _, _⟩ :: _) _ _); refine wpList_load1 rfl 3 (.tmp 16) rfl N 34 (by rfl) _ _ hg Tryz.underlying3 rfl ?_) | ((with_reducible show wpList _ _ _ (⟨some 18, _, _, _, _, _⟩ :: _) _ _); refine wpList_bsN rfl 40 3 3 _ rfl [.int .i64 n.d, .int .i64 n.a, .int .i64 n.g] (by rfl) rfl Tryz.underlying40 (.int .i64 0) 1 (by kernel_rfl) (by intro u hu; simp at hu; rcases hu with rfl | rfl | rfl <;> rfl) (by omega) (by omega) (by omega) ?_; intro w4 s4 b4 n4; have HW4 := Lib.hid (HW3.out.below (B := 0) fun k _ hl => b4.block k hl); have hB4 := hB3.trans (b4.mono (Nat.le_trans (Nat.le_of_eq HN.out) hB3.size)); have hS4 := Nat.le_trans hS3 b4.size; clear HW3 hB3 hS3 b4 s4 hd ha hg))
  refine (put3_calls B B _ _ [n.d, n.a, n.g] _ HW4.out hS4 (by simp [HH.out]) rfl HL.out n4).mono ?_
  rintro e w5 ⟨rfl, hw5, k5⟩
  have hB5 := hB4.trans (k5.below.mono (by omega))
  rw [← HP.out] at hw5
  have HW5 := Lib.hid hw5
  clear hw5 k5 hB4 hS4 HW4 n4
  go_wp2_with fail
  refine (endOk_calls B B _ _ HW5.out).mono ?_
  rintro e w6 ⟨rfl, hw6⟩
  subst hw6
  clear HW5
  go_wp2_with fail
  go_returns
  exact ⟨rfl, by rw [HN.out] at hB5; exact hB5⟩
set_option maxHeartbeats 4000000 in
set_option maxRecDepth 100000 in
theorem RHead_calls (n : NoteA) (w : World) (hr : rightN n = true) :
    Calls Tryz.prog 110 #[.agg n.cells.toArray] w fun e w' => e = .returned (.string (str (headN n))) ∧ Below w.heap.size w w' := by
  have hr := rightN_true hr
  obtain ⟨H1, H2, H3, H4, H5, H6, _⟩ := hr
  have HH : Hid (n.h.length = 32) := n.hh
  have hA0 : Blk (w.alloc (.cells n.cells.toArray 86)) w.heap.size n.cells.toArray 86 := Blk.new _ _ _
  have hb0 : Below w.heap.size w (w.alloc (.cells n.cells.toArray 86)) := below_alloc1 _ _
  have cD : ∀ y, Calls Tryz.prog 160 #[.int .i64 n.d] y fun e w' => e = .returned (.string (str (numB n.d.toNat))) ∧ Below y.heap.size y w' := fun y => RefNum_calls _ _ (by omega) (by omega)
  have cA : ∀ y, Calls Tryz.prog 160 #[.int .i64 n.a] y fun e w' => e = .returned (.string (str (numB n.a.toNat))) ∧ Below y.heap.size y w' := fun y => RefNum_calls _ _ (by omega) (by omega)
  have cG : ∀ y, Calls Tryz.prog 160 #[.int .i64 n.g] y fun e w' => e = .returned (.string (str (numB n.g.toNat))) ∧ Below y.heap.size y w' := fun y => RefNum_calls _ _ (by omega) (by omega)
  have lD := numB_len n.d.toNat
  have lA := numB_len n.a.toNat
  have lG := numB_len n.g.toNat
  have lH := n.hh
  have HP : Hid (headN n = n.h ++ (numB n.d.toNat ++ (numB n.a.toNat ++ numB n.g.toNat))) := rfl
  generalize headN n = R at HP ⊢
  generalize numB n.d.toNat = D at *
  generalize numB n.a.toNat = A at *
  generalize numB n.g.toNat = G at *
  clear H1 H2 H3 H4 H5 H6
  obtain ⟨N, hN⟩ : ∃ N, N = w.heap.size := ⟨_, rfl⟩
  have HN : Hid (N = w.heap.size) := hN
  rw [← hN] at hA0 hb0
  go_enter Tryz.func110, Tryz.ntmps110
  go_upto_region 1 with (fail)
  rw [← hN]
  clear hN
  obtain ⟨w0, hw0⟩ : ∃ z, z = w.alloc (.cells n.cells.toArray 86) := ⟨_, rfl⟩
  rw [← hw0] at hA0 hb0 ⊢
  clear hw0
  refine wp_region_held_drew (S := fun x => Blk x (N) n.cells.toArray 86 ∧ Below N w x) (by kernel_rfl) ⟨hA0.drew, below_drewN hb0 1⟩ (fun hSq1 => ?_)
  refine wpAnyH_take (i := 0) (v := .pointer (some ⟨N, 0, none⟩)) rfl (by kernel_rfl) (by kernel_rfl) (by kernel_rfl) (fun _ _ _ h => h) (Or.inl ⟨by rfl, fun x hx => by go_simp⟩) hSq1 ?_
  simp only [Act.put, List.getElem_toArray, List.getElem_cons_zero, List.getElem_cons_succ, List.setIfInBounds_toArray, List.set_cons_zero, List.set_cons_succ]
  refine wpAnyH_take (i := 1) rfl (by kernel_rfl) (by kernel_rfl) (by kernel_rfl) (fun _ _ _ h => h) (yieldsIf_load_mid (by rfl) 23 (.tmp 3) rfl (N) (0) (by rfl) ((n.h.map bv)) _ (fun x hx => note_h hx.1) Tryz.underlying23 rfl (by rw [List.length_map, HH.out]; exact Tryz.sizeHash)) hSq1 ?_
  simp only [Act.put, List.getElem_toArray, List.getElem_cons_zero, List.getElem_cons_succ, List.setIfInBounds_toArray, List.set_cons_zero, List.set_cons_succ]
  refine wpAnyH_take (i := 3) (v := .pointer (some ⟨N, 32, none⟩)) rfl (by kernel_rfl) (by kernel_rfl) (by kernel_rfl) (fun _ _ _ h => h) (Or.inl ⟨by rfl, fun x hx => by go_simp⟩) hSq1 ?_
  simp only [Act.put, List.getElem_toArray, List.getElem_cons_zero, List.getElem_cons_succ, List.setIfInBounds_toArray, List.set_cons_zero, List.set_cons_succ]
  refine wpAnyH_take (i := 4) (v := .int .i64 n.d) rfl (by kernel_rfl) (by kernel_rfl) (by kernel_rfl) (fun _ _ _ h => h) (Or.inl ⟨by rfl, fun x hx => by have hc := hx.1.cell 32 _ (note_d n); go_simp⟩) hSq1 ?_
  simp only [Act.put, List.getElem_toArray, List.getElem_cons_zero, List.getElem_cons_succ, List.setIfInBounds_toArray, List.set_cons_zero, List.set_cons_succ]
  refine wpAnyH_take (i := 7) (v := .pointer (some ⟨N, 33, none⟩)) rfl (by kernel_rfl) (by kernel_rfl) (by kernel_rfl) (fun _ _ _ h => h) (Or.inl ⟨by rfl, fun x hx => by go_simp⟩) hSq1 ?_
  simp only [Act.put, List.getElem_toArray, List.getElem_cons_zero, List.getElem_cons_succ, List.setIfInBounds_toArray, List.set_cons_zero, List.set_cons_succ]
  refine wpAnyH_take (i := 8) (v := .int .i64 n.a) rfl (by kernel_rfl) (by kernel_rfl) (by kernel_rfl) (fun _ _ _ h => h) (Or.inl ⟨by rfl, fun x hx => by have hc := hx.1.cell 33 _ (note_a n); go_simp⟩) hSq1 ?_
  simp only [Act.put, List.getElem_toArray, List.getElem_cons_zero, List.getElem_cons_succ, List.setIfInBounds_toArray, List.set_cons_zero, List.set_cons_succ]
  refine wpAnyH_take (i := 11) (v := .pointer (some ⟨N, 34, none⟩)) rfl (by kernel_rfl) (by kernel_rfl) (by kernel_rfl) (fun _ _ _ h => h) (Or.inl ⟨by rfl, fun x hx => by go_simp⟩) hSq1 ?_
  simp only [Act.put, List.getElem_toArray, List.getElem_cons_zero, List.getElem_cons_succ, List.setIfInBounds_toArray, List.set_cons_zero, List.set_cons_succ]
  refine wpAnyH_take (i := 12) (v := .int .i64 n.g) rfl (by kernel_rfl) (by kernel_rfl) (by kernel_rfl) (fun _ _ _ h => h) (Or.inl ⟨by rfl, fun x hx => by have hc := hx.1.cell 34 _ (note_g n); go_simp⟩) hSq1 ?_
  simp only [Act.put, List.getElem_toArray, List.getElem_cons_zero, List.getElem_cons_succ, List.setIfInBounds_toArray, List.set_cons_zero, List.set_cons_succ]
  refine wpAnyH_ready (rs := [2]) (by kernel_rfl) (by simp) ?_
  refine AllReadyH.cons rfl (fun K hK => ?_) AllReadyH.nil
  go_simp
  go_wp2_with (go_at_call 175; refine (RefHash_calls n.h _ HH.out).mono ?_; rintro e yq2 ⟨rfl, bq3⟩)
  refine hK.out _ _ ⟨hSq1.1.below bq3 hSq1.1.lt, hSq1.2.trans (bq3.mono (Nat.le_trans (Nat.le_of_eq HN.out) hSq1.2.size))⟩ (fun hSq4 => ?_)
  clear hK K hSq1 bq3
  refine wpAnyH_ready (rs := [5]) (by kernel_rfl) (by simp) ?_
  refine AllReadyH.cons rfl (fun K hK => ?_) AllReadyH.nil
  go_simp
  go_wp2_with (go_at_call 160; refine (cD _).mono ?_; rintro e yq5 ⟨rfl, bq6⟩)
  refine hK.out _ _ ⟨hSq4.1.below bq6 hSq4.1.lt, hSq4.2.trans (bq6.mono (Nat.le_trans (Nat.le_of_eq HN.out) hSq4.2.size))⟩ (fun hSq7 => ?_)
  clear hK K hSq4 bq6
  refine wpAnyH_take (i := 6) (v := .string (str (n.h ++ D))) rfl (by kernel_rfl) (by kernel_rfl) (by kernel_rfl) (fun _ _ _ h => h) (Or.inl ⟨by rfl, fun x hx => by go_simp <;> omega⟩) hSq7 ?_
  simp only [Act.put, List.getElem_toArray, List.getElem_cons_zero, List.getElem_cons_succ, List.setIfInBounds_toArray, List.set_cons_zero, List.set_cons_succ]
  refine wpAnyH_ready (rs := [9]) (by kernel_rfl) (by simp) ?_
  refine AllReadyH.cons rfl (fun K hK => ?_) AllReadyH.nil
  go_simp
  go_wp2_with (go_at_call 160; refine (cA _).mono ?_; rintro e yq8 ⟨rfl, bq9⟩)
  refine hK.out _ _ ⟨hSq7.1.below bq9 hSq7.1.lt, hSq7.2.trans (bq9.mono (Nat.le_trans (Nat.le_of_eq HN.out) hSq7.2.size))⟩ (fun hSq10 => ?_)
  clear hK K hSq7 bq9
  refine wpAnyH_take (i := 10) (v := .string (str (n.h ++ D ++ A))) rfl (by kernel_rfl) (by kernel_rfl) (by kernel_rfl) (fun _ _ _ h => h) (Or.inl ⟨by rfl, fun x hx => by go_simp <;> omega⟩) hSq10 ?_
  simp only [Act.put, List.getElem_toArray, List.getElem_cons_zero, List.getElem_cons_succ, List.setIfInBounds_toArray, List.set_cons_zero, List.set_cons_succ]
  refine wpAnyH_ready (rs := [13]) (by kernel_rfl) (by simp) ?_
  refine AllReadyH.cons rfl (fun K hK => ?_) AllReadyH.nil
  go_simp
  go_wp2_with (go_at_call 160; refine (cG _).mono ?_; rintro e yq11 ⟨rfl, bq12⟩)
  refine hK.out _ _ ⟨hSq10.1.below bq12 hSq10.1.lt, hSq10.2.trans (bq12.mono (Nat.le_trans (Nat.le_of_eq HN.out) hSq10.2.size))⟩ (fun hSq13 => ?_)
  clear hK K hSq10 bq12
  refine wpAnyH_take (i := 14) (v := .string (str (n.h ++ D ++ A ++ G))) rfl (by kernel_rfl) (by kernel_rfl) (by kernel_rfl) (fun _ _ _ h => h) (Or.inl ⟨by rfl, fun x hx => by go_simp <;> omega⟩) hSq13 ?_
  simp only [Act.put, List.getElem_toArray, List.getElem_cons_zero, List.getElem_cons_succ, List.setIfInBounds_toArray, List.set_cons_zero, List.set_cons_succ]
  refine wpAnyH_ready (rs := [15]) (by kernel_rfl) (by simp) ?_
  refine AllReadyH.cons rfl (fun K hK => ?_) AllReadyH.nil
  go_simp
  refine hK.out _ _ hSq13 (fun hSq14 => ?_)
  clear hK K hSq13
  refine wpAnyH_done (by kernel_rfl) ?_ _
  have hB9 := hSq14.2
  clear hSq14
  go_wp2_with fail
  go_returns
  have e := HP.out
  subst e
  exact ⟨rfl, by rw [HN.out] at hB9; exact hB9⟩
set_option maxHeartbeats 4000000 in
set_option maxRecDepth 100000 in
theorem NPackNo_calls (n : NoteA) (w : World) (hr : rightN n = false) :
    Calls Tryz.prog 39 #[.agg n.cells.toArray] w fun e w' => e = .returned (.string (str [])) ∧ Below w.heap.size w w' := by
  have hA0 : Blk (w.alloc (.cells n.cells.toArray 86)) w.heap.size n.cells.toArray 86 := Blk.new _ _ _
  have hb0 : Below w.heap.size w (w.alloc (.cells n.cells.toArray 86)) := below_alloc1 _ _
  have hrr := blk_rangeP hA0
  have cR : ∀ y, Calls Tryz.prog 37 #[.agg n.cells.toArray] y fun e w' => e = .returned (.bool false) ∧ Below y.heap.size y w' := fun y => by rw [← hr]; exact NRight_calls n y
  clear hr
  go_enter Tryz.func39, Tryz.ntmps39
  go_wp2_with ((with_reducible show wpList _ _ _ (⟨some 6, _, _, _, _, _⟩ :: _) _ _); refine wpList_load_mid rfl 86 (.tmp 1) rfl w.heap.size 0 (by rfl) n.cells _ hrr Tryz.underlying86 rfl (by rw [n.cells_len]; exact Tryz.sizeNote) ?_)
  refine (cR _).mono ?_
  rintro e w2 ⟨rfl, b2⟩
  have hB2 := hb0.trans (b2.mono hb0.size)
  clear b2 hb0 hA0 hrr cR
  go_wp2_with fail
  go_returns
  exact ⟨rfl, hB2⟩
set_option maxHeartbeats 4000000 in
set_option maxRecDepth 100000 in
theorem NPack_calls (n : NoteA) (w : World) (hr : rightN n = true) :
    Calls Tryz.prog 39 #[.agg n.cells.toArray] w fun e w' => e = .returned (.string (str (packN n))) ∧ Below w.heap.size w w' := by
  have HR := Lib.hid hr
  have hls := (rightN_true hr).2.2.2.2.2.2
  have hA0 : Blk (w.alloc (.cells n.cells.toArray 86)) w.heap.size n.cells.toArray 86 := Blk.new _ _ _
  have hb0 : Below w.heap.size w (w.alloc (.cells n.cells.toArray 86)) := below_alloc1 _ _
  have cR : ∀ y, Calls Tryz.prog 37 #[.agg n.cells.toArray] y fun e w' => e = .returned (.bool true) ∧ Below y.heap.size y w' := fun y => by rw [← hr]; exact NRight_calls n y
  have hhl := headN_len n
  have cH : ∀ y, Calls Tryz.prog 103 #[.agg n.cells.toArray] y fun e w' => e = .returned (.string (str (headN n))) ∧ Below y.heap.size y w' := fun y => head_calls n y HR.out
  have HP : Hid (packN n = headN n ++ (numB n.s.length ++ n.s)) := rfl
  have lS := numB_len n.s.length
  generalize packN n = R at HP ⊢
  generalize headN n = X at *
  clear hr
  obtain ⟨N, hN⟩ : ∃ N, N = w.heap.size := ⟨_, rfl⟩
  have HN : Hid (N = w.heap.size) := hN
  rw [← hN] at hA0 hb0
  have hrr := blk_rangeP hA0
  go_enter Tryz.func39, Tryz.ntmps39
  go_upto_region 1 with (fail)
  rw [← hN]
  clear hN
  go_wp2_with ((with_reducible show wpList _ _ _ (⟨some 6, _, _, _, _, _⟩ :: _) _ _); refine wpList_load_mid rfl 86 (.tmp 1) rfl N 0 (by rfl) n.cells _ hrr Tryz.underlying86 rfl (by rw [n.cells_len]; exact Tryz.sizeNote) ?_)
  refine (cR _).mono ?_
  rintro e w2 ⟨rfl, b2⟩
  have hA2 := hA0.below b2 hA0.lt
  have hB2 := hb0.trans (b2.mono (Nat.le_trans (Nat.le_of_eq HN.out) hb0.size))
  clear b2 hb0 hA0 hrr cR
  go_wp2_with fail
  refine (New_calls _).mono ?_
  rintro e w3 ⟨rfl, hw3, b3⟩
  have hA3 := hA2.below b3 hA2.lt
  have hlt := hA2.lt
  have hB3 := hB2.trans (b3.mono (Nat.le_trans (Nat.le_of_eq HN.out) hB2.size))
  have hS3 := b3.size
  obtain ⟨B, hB⟩ : ∃ B, B = w2.heap.size := ⟨_, rfl⟩
  rw [← hB] at hw3 hlt hS3 ⊢
  have HW3 := Lib.hid hw3
  have hs := hA3.cell 35 _ (note_s n)
  clear hA2 hB2 hw3 b3 hB
  go_wp2_with ((with_reducible show wpList _ _ _ (⟨some 12, _, _, _, _, _⟩ :: _) _ _); refine wpList_load1 rfl 9 (.tmp 11) rfl N 35 (by rfl) _ _ hs Tryz.underlying9 rfl ?_)
  refine (textOk_calls B B [] false n.s _ HW3.out hS3 (by simp) (by omega)).mono ?_
  rintro e w4 ⟨rfl, hw4, k4⟩
  have hA4 := hA3.below k4.below hlt
  have hB4 := hB3.trans (k4.below.mono (by omega))
  have HW4 := Lib.hid hw4
  clear hA3 hB3 hw4 k4 HW3 hs hS3
  go_wp2_with fail
  refine (endOk_calls B B _ _ HW4.out).mono ?_
  rintro e w5 ⟨rfl, hw5⟩
  subst hw5
  clear HW4
  have hrr := blk_rangeP hA4
  go_wp2_with ((with_reducible show wpList _ _ _ (⟨some 19, _, _, _, _, _⟩ :: _) _ _); refine wpList_load_mid rfl 86 (.tmp 1) rfl N 0 (by rfl) n.cells _ hrr Tryz.underlying86 rfl (by rw [n.cells_len]; exact Tryz.sizeNote) ?_)
  refine (cH _).mono ?_
  rintro e w6 ⟨rfl, b6⟩
  have hB6 := hB4.trans (b6.mono (Nat.le_trans (Nat.le_of_eq HN.out) hB4.size))
  clear hrr hA4 hB4 b6 cH
  go_wp2_with fail
  go_returns
  have e := HP.out
  subst e
  exact ⟨rfl, by rw [HN.out] at hB6; exact hB6⟩
set_option maxHeartbeats 4000000 in
set_option maxRecDepth 100000 in
theorem RNPack_calls (n : NoteA) (w : World) (hr : rightN n = true) :
    Calls Tryz.prog 40 #[.agg n.cells.toArray] w fun e w' => e = .returned (.string (str (packN n))) ∧ Below w.heap.size w w' := by
  have HR := Lib.hid hr
  have hls := (rightN_true hr).2.2.2.2.2.2
  have hA0 : Blk (w.alloc (.cells n.cells.toArray 86)) w.heap.size n.cells.toArray 86 := Blk.new _ _ _
  have hb0 : Below w.heap.size w (w.alloc (.cells n.cells.toArray 86)) := below_alloc1 _ _
  have hhl := headN_len n
  have lS := numB_len n.s.length
  have lX : (numB n.s.length ++ n.s : List UInt8).length ≤ 2000 := by simp; omega
  have cH : ∀ y, Calls Tryz.prog 110 #[.agg n.cells.toArray] y fun e w' => e = .returned (.string (str (headN n))) ∧ Below y.heap.size y w' := fun y => RHead_calls n y HR.out
  have cT : ∀ y, Calls Tryz.prog 111 #[.string (str n.s)] y fun e w' => e = .returned (.string (str (numB n.s.length ++ n.s))) ∧ Below y.heap.size y w' := fun y => RefText_calls n.s y (by omega)
  have HP : Hid (packN n = headN n ++ (numB n.s.length ++ n.s)) := rfl
  generalize packN n = R at HP ⊢
  generalize headN n = X at *
  generalize (numB n.s.length ++ n.s : List UInt8) = Y at *
  clear hr
  obtain ⟨N, hN⟩ : ∃ N, N = w.heap.size := ⟨_, rfl⟩
  have HN : Hid (N = w.heap.size) := hN
  rw [← hN] at hA0 hb0
  go_enter Tryz.func40, Tryz.ntmps40
  go_upto_region 1 with (fail)
  rw [← hN]
  clear hN
  obtain ⟨w0, hw0⟩ : ∃ z, z = w.alloc (.cells n.cells.toArray 86) := ⟨_, rfl⟩
  rw [← hw0] at hA0 hb0 ⊢
  clear hw0
  refine wp_region_held_drew (S := fun x => Blk x (N) n.cells.toArray 86 ∧ Below N w x) (by kernel_rfl) ⟨hA0.drew, below_drewN hb0 1⟩ (fun hSq15 => ?_)
  refine wpAnyH_take (i := 0) rfl (by kernel_rfl) (by kernel_rfl) (by kernel_rfl) (fun _ _ _ h => h) (yieldsIf_load_mid (by rfl) 86 (.tmp 1) rfl (N) (0) (by rfl) (n.cells) _ (fun x hx => blk_rangeP hx.1) Tryz.underlying86 rfl (by rw [n.cells_len]; exact Tryz.sizeNote)) hSq15 ?_
  simp only [Act.put, List.getElem_toArray, List.getElem_cons_zero, List.getElem_cons_succ, List.setIfInBounds_toArray, List.set_cons_zero, List.set_cons_succ]
  refine wpAnyH_take (i := 2) (v := .pointer (some ⟨N, 35, none⟩)) rfl (by kernel_rfl) (by kernel_rfl) (by kernel_rfl) (fun _ _ _ h => h) (Or.inl ⟨by rfl, fun x hx => by go_simp⟩) hSq15 ?_
  simp only [Act.put, List.getElem_toArray, List.getElem_cons_zero, List.getElem_cons_succ, List.setIfInBounds_toArray, List.set_cons_zero, List.set_cons_succ]
  refine wpAnyH_take (i := 3) (v := .string (str n.s)) rfl (by kernel_rfl) (by kernel_rfl) (by kernel_rfl) (fun _ _ _ h => h) (Or.inl ⟨by rfl, fun x hx => by have hc := hx.1.cell 35 _ (note_s n); go_simp⟩) hSq15 ?_
  simp only [Act.put, List.getElem_toArray, List.getElem_cons_zero, List.getElem_cons_succ, List.setIfInBounds_toArray, List.set_cons_zero, List.set_cons_succ]
  refine wpAnyH_ready (rs := [1]) (by kernel_rfl) (by simp) ?_
  refine AllReadyH.cons rfl (fun K hK => ?_) AllReadyH.nil
  go_simp
  go_wp2_with (go_at_call 110; refine (cH _).mono ?_; rintro e yq16 ⟨rfl, bq17⟩)
  refine hK.out _ _ ⟨hSq15.1.below bq17 hSq15.1.lt, hSq15.2.trans (bq17.mono (Nat.le_trans (Nat.le_of_eq HN.out) hSq15.2.size))⟩ (fun hSq18 => ?_)
  clear hK K hSq15 bq17
  refine wpAnyH_ready (rs := [4]) (by kernel_rfl) (by simp) ?_
  refine AllReadyH.cons rfl (fun K hK => ?_) AllReadyH.nil
  go_simp
  go_wp2_with (go_at_call 111; refine (cT _).mono ?_; rintro e yq19 ⟨rfl, bq20⟩)
  refine hK.out _ _ ⟨hSq18.1.below bq20 hSq18.1.lt, hSq18.2.trans (bq20.mono (Nat.le_trans (Nat.le_of_eq HN.out) hSq18.2.size))⟩ (fun hSq21 => ?_)
  clear hK K hSq18 bq20
  refine wpAnyH_take (i := 5) (v := .string (str (X ++ Y))) rfl (by kernel_rfl) (by kernel_rfl) (by kernel_rfl) (fun _ _ _ h => h) (Or.inl ⟨by rfl, fun x hx => by go_simp <;> omega⟩) hSq21 ?_
  simp only [Act.put, List.getElem_toArray, List.getElem_cons_zero, List.getElem_cons_succ, List.setIfInBounds_toArray, List.set_cons_zero, List.set_cons_succ]
  refine wpAnyH_ready (rs := [6]) (by kernel_rfl) (by simp) ?_
  refine AllReadyH.cons rfl (fun K hK => ?_) AllReadyH.nil
  go_simp
  refine hK.out _ _ hSq21 (fun hSq22 => ?_)
  clear hK K hSq21
  refine wpAnyH_done (by kernel_rfl) ?_ _
  have hB9 := hSq22.2
  clear hSq22
  go_wp2_with fail
  go_returns
  have e := HP.out
  subst e
  exact ⟨rfl, by rw [HN.out] at hB9; exact hB9⟩
end Go.Proofs.YtjlpdbaknhbgdaaGreat
