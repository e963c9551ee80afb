/-
  chat.Unprotect with a nil book.
-/
import Derived.Test.YtjlpdbaknhbgdaaGreatProtect
import Derived.Test.YtjlpdbaknhbgdaaGreatQSeal
import Derived.Test.YtjlpdbaknhbgdaaGreatPprLook
import Derived.Test.YtjlpdbaknhbgdaaGreatQBase
import Derived.WalkLawsBesides
import Derived.Deep.RegionHeld
import Derived.Deep.Cut
import Derived.Outline
import Derived.Handy
set_option linter.unusedSimpArgs false
set_option linter.unusedVariables false
namespace Go.Proofs.YtjlpdbaknhbgdaaGreat
open Go.RowKit

set_option maxHeartbeats 16000000 in
set_option maxRecDepth 100000 in
theorem Unprotect_calls (base eb : Nat) (M : EraM) (E : EraD) (n : NoteA) (w : World) (h : EraIs w base eb M E) (hn : E.T.leaves.length ≤ 1000000) (hm : E.T.pars.length ≤ 1000000) (hright : rightN n = true) (hid : n.h = E.f.id) (hdep : n.d = E.f.dep) (at_ r : Nat) (l : List Sd) (hp : placeT E.T n.a = (at_ : Int)) (hne : ¬ n.a = E.me) (hr : M.rs[at_]? = some (some r)) (hl : E.apps[at_]? = some (some l)) (hok : RowOk 8 l) :
    Calls Tryz.prog 34 #[.pointer none, .pointer (some ⟨eb, 0, none⟩), .agg n.cells.toArray] w fun e w' =>
      ((lookT 8 n.g l).2 ≠ 0 ∧ e = .returned (.tuple #[.string (str []), .int .i64 11]) ∧ Below w.heap.size w w') ∨
      ((lookT 8 n.g l).2 = 0 ∧ (openV (lookT 8 n.g l).1 (headN n) n.s).2 ≠ 0 ∧ e = .returned (.tuple #[.string (str []), .int .i64 (openV (lookT 8 n.g l).1 (headN n) n.s).2]) ∧ Below w.heap.size w w') ∨
      ((lookT 8 n.g l).2 = 0 ∧ (openV (lookT 8 n.g l).1 (headN n) n.s).2 = 0 ∧ e = .returned (.tuple #[.string (str (openV (lookT 8 n.g l).1 (headN n) n.s).1), .int .i64 0]) ∧ EraIs w' base eb M (E.took at_ (takeT 8 n.g l)) ∧ Gr w r w') := by
  obtain ⟨N, hN⟩ : ∃ N, N = w.heap.size := ⟨_, rfl⟩
  have HN : Hid (N = w.heap.size) := hN
  have hZ : Blk (w.alloc (.cells n.cells.toArray 86)) N n.cells.toArray 86 := by rw [hN]; exact Blk.new _ _ _
  have hb0 : Below N w (w.alloc (.cells n.cells.toArray 86)) := by rw [hN]; exact below_alloc1 _ _
  have hE0 : EraIs (w.alloc (.cells n.cells.toArray 86)) base eb M E := h.below (by rw [← hN]; exact hb0)
  have HR := Lib.hid hr
  have HL := Lib.hid hl
  have HOK := Lib.hid hok
  have HRT := Lib.hid hright
  have HNH := Lib.hid hid
  have HND := Lib.hid hdep
  have HEL : Hid (eb < N) := by show eb < N; rw [hN]; exact h.blk.lt
  have hbr : base ≤ r := (h.rowAt hr hl).2
  have hbe : base ≤ eb := h.hb
  have HBN : Hid (base ≤ w.heap.size) := by have e1 := HEL.out; have e2 := HN.out; show base ≤ w.heap.size; omega
  have HAGL : Hid (∀ g, M.ao = some ⟨g, 0, none⟩ → g < N) := by
    intro g e
    have := ROwn.lt h.av g (by rw [e]; rfl)
    rw [hN]; exact this.2
  have HKL : Hid ((lookT 8 n.g l).1.length = 32) := lookT_len _ _ _
  have HIL : Hid (E.f.id.length = 32) := E.f.hi
  have hhl := headN_len n
  obtain ⟨q0, q1, q2, q3, q4, q5, q6⟩ := rightN_true hright
  have HG : Hid (0 ≤ n.g ∧ n.g ≤ 255) := ⟨q4, q5⟩
  have cRt : ∀ y, Calls Tryz.prog 37 #[.agg n.cells.toArray] y fun e w' => e = .returned (.bool true) ∧ Below y.heap.size y w' := fun y => by rw [← HRT.out]; exact NRight_calls n y
  have cP : ∀ y, EraIs y base eb M E → Calls Tryz.prog 71 #[.agg #[M.lv E, M.pv E], .int .i64 n.a] y fun e w' => e = .returned (.int .i64 at_) ∧ Below y.heap.size y w' := fun y hy => by rw [← hp]; exact Place_calls _ _ _ _ _ _ _ _ _ y hy.tree.is hn hm
  have cLk : ∀ y, EraIs y base eb M E → Calls Tryz.prog 48 #[.pointer (some ⟨r, 0, none⟩), .pointer none, .int .i64 n.g] y fun e w' => e = .returned (.tuple #[.agg ((lookT 8 n.g l).1.map bv).toArray, .int .i64 (lookT 8 n.g l).2]) ∧ Below y.heap.size y w' := fun y hy => Look_calls r 8 n.g l y (hy.rowAt HR.out HL.out).1 (by omega) HOK.out (by have := HG.out; omega) (by have := HG.out; omega)
  have cT : ∀ y, EraIs y base eb M E → Calls Tryz.prog 21 #[.pointer (some ⟨r, 0, none⟩), .pointer none, .int .i64 n.g] y fun e w' => e = .returned (.tuple #[.agg ((lookT 8 n.g l).1.map bv).toArray, .int .i64 (lookT 8 n.g l).2]) ∧ Hid (EraIs w' base eb M (E.took at_ (takeT 8 n.g l)) ∧ y.grownBy w' (some r) ∧ RowAt y r 8 l) := fun y hy =>
    (Take_calls r 8 n.g l y (hy.rowAt HR.out HL.out).1 (by omega) HOK.out (by have := HG.out; omega) (by have := HG.out; omega)).mono (by
      rintro e w' ⟨he, hR, g⟩
      exact ⟨he, hy.took HR.out HL.out g hR, g, (hy.rowAt HR.out HL.out).1⟩)
  have cH : ∀ y, Calls Tryz.prog 103 #[.agg n.cells.toArray] y fun e w' => e = .returned (.string (str (headN n))) ∧ Below y.heap.size y w' := fun y => head_calls _ y HRT.out
  have cO : ∀ y, Calls Tryz.prog 105 #[.agg ((lookT 8 n.g l).1.map bv).toArray, .string (str (headN n)), .string (str n.s)] y fun e w' => e = .returned (.tuple #[.string (str (openV (lookT 8 n.g l).1 (headN n) n.s).1), .int .i64 (openV (lookT 8 n.g l).1 (headN n) n.s).2]) ∧ Below y.heap.size y w' := fun y => Open_calls _ _ _ y HKL.out (by omega) (by unfold maxLen; omega)
  have hqe : ∀ z, (Op.equalIn 10000 23 (.agg (E.f.id.map bv).toArray) (.agg (E.f.id.map bv).toArray)).run Tryz.prog z = .ok true z := fun z => by rw [run_eq_hash z _ _ HIL.out HIL.out, beq_self_eq_true]
  clear hr hl hok hp hn hm h hid hdep hright q0 q1 q2 q3
  go_enter Tryz.func34, Tryz.ntmps34
  go_upto_region 1 with (fail)
  rw [← hN]
  obtain ⟨w0, hw0⟩ : ∃ z, z = w.alloc (.cells n.cells.toArray 86) := ⟨_, rfl⟩
  rw [← hw0] at hZ hb0 hE0 ⊢
  clear hw0 hN
  have hrr := blk_rangeP hZ
  go_wp2_with ((with_reducible show wpList _ _ _ (⟨some 16, _, _, _, _, _⟩ :: _) _ _); refine wpList_load_mid rfl 86 (.tmp 5) rfl N 0 (by rfl) n.cells _ hrr Tryz.underlying86 rfl (by rw [n.cells_len]; exact Tryz.sizeNote) ?_)
  clear hrr
  refine (cRt _).mono ?_
  rintro e w1 ⟨rfl, b1⟩
  have hZ1 := hZ.below b1 hZ.lt
  have hE1 := hE0.below b1
  have hB1 := hb0.trans (b1.mono (Nat.le_trans (Nat.le_of_eq HN.out) hb0.size))
  clear hZ hE0 hb0 b1 cRt
  go_wp2_with fail
  refine wp_region_held_drew (S := fun x => Blk x (N) n.cells.toArray 86 ∧ EraIs x base eb M E ∧ Below N w x) (by kernel_rfl) ⟨hZ1.drew, hE1.below (below_drewN (Below.refl _ _) 1), below_drewN hB1 1⟩ (fun hSq1 => ?_)
  refine wpAnyH_take (i := 0) (v := .pointer (some ⟨N, 0, none⟩)) rfl (by kernel_rfl) (by kernel_rfl) (by kernel_rfl) (fun _ _ _ h => h) (Or.inl ⟨by rfl, fun x hx => by go_simp⟩) hSq1 ?_
  simp only [Act.put, List.getElem_toArray, List.getElem_cons_zero, List.getElem_cons_succ, List.setIfInBounds_toArray, List.set_cons_zero, List.set_cons_succ]
  refine wpAnyH_take (i := 1) rfl (by kernel_rfl) (by kernel_rfl) (by kernel_rfl) (fun _ _ _ h => h) (yieldsIf_load_mid (by rfl) 23 (.tmp 20) rfl (N) (0) (by rfl) ((E.f.id.map bv)) _ (fun x hx => by have e := note_h (n := n) hx.1; rw [HNH.out] at e; exact e) Tryz.underlying23 rfl (by rw [List.length_map, HIL.out]; exact Tryz.sizeHash)) hSq1 ?_
  simp only [Act.put, List.getElem_toArray, List.getElem_cons_zero, List.getElem_cons_succ, List.setIfInBounds_toArray, List.set_cons_zero, List.set_cons_succ]
  refine wpAnyH_take (i := 2) (v := .pointer (some ⟨eb, 0, none⟩)) rfl (by kernel_rfl) (by kernel_rfl) (by kernel_rfl) (fun _ _ _ h => h) (Or.inl ⟨by rfl, fun x hx => by go_simp⟩) hSq1 ?_
  simp only [Act.put, List.getElem_toArray, List.getElem_cons_zero, List.getElem_cons_succ, List.setIfInBounds_toArray, List.set_cons_zero, List.set_cons_succ]
  refine wpAnyH_take (i := 3) (v := .pointer (some ⟨eb, 0, none⟩)) rfl (by kernel_rfl) (by kernel_rfl) (by kernel_rfl) (fun _ _ _ h => h) (Or.inl ⟨by rfl, fun x hx => by go_simp⟩) hSq1 ?_
  simp only [Act.put, List.getElem_toArray, List.getElem_cons_zero, List.getElem_cons_succ, List.setIfInBounds_toArray, List.set_cons_zero, List.set_cons_succ]
  refine wpAnyH_take (i := 4) (v := .pointer (some ⟨eb, 0, none⟩)) rfl (by kernel_rfl) (by kernel_rfl) (by kernel_rfl) (fun _ _ _ h => h) (Or.inl ⟨by rfl, fun x hx => by go_simp⟩) hSq1 ?_
  simp only [Act.put, List.getElem_toArray, List.getElem_cons_zero, List.getElem_cons_succ, List.setIfInBounds_toArray, List.set_cons_zero, List.set_cons_succ]
  refine wpAnyH_take (i := 5) (v := .pointer (some ⟨eb, 0, none⟩)) rfl (by kernel_rfl) (by kernel_rfl) (by kernel_rfl) (fun _ _ _ h => h) (Or.inl ⟨by rfl, fun x hx => by go_simp⟩) hSq1 ?_
  simp only [Act.put, List.getElem_toArray, List.getElem_cons_zero, List.getElem_cons_succ, List.setIfInBounds_toArray, List.set_cons_zero, List.set_cons_succ]
  refine wpAnyH_take (i := 6) rfl (by kernel_rfl) (by kernel_rfl) (by kernel_rfl) (fun _ _ _ h => h) (yieldsIf_load_mid (by rfl) 23 (.tmp 25) rfl (eb) (0) (by rfl) ((E.f.id.map bv)) _ (fun x hx => hx.2.1.id) Tryz.underlying23 rfl (by rw [List.length_map, HIL.out]; exact Tryz.sizeHash)) hSq1 ?_
  simp only [Act.put, List.getElem_toArray, List.getElem_cons_zero, List.getElem_cons_succ, List.setIfInBounds_toArray, List.set_cons_zero, List.set_cons_succ]
  refine wpAnyH_take (i := 7) (v := .bool false) rfl (by kernel_rfl) (by kernel_rfl) (by kernel_rfl) (fun _ _ _ h => h) (Or.inl ⟨by rfl, fun x hx => by go_simp⟩) hSq1 ?_
  simp only [Act.put, List.getElem_toArray, List.getElem_cons_zero, List.getElem_cons_succ, List.setIfInBounds_toArray, List.set_cons_zero, List.set_cons_succ]
  refine wpAnyH_ready (rs := [8]) (by kernel_rfl) (by simp) ?_
  refine AllReadyH.cons rfl (fun K hK => ?_) AllReadyH.nil
  go_simp
  refine hK.out _ _ hSq1 (fun hSq2 => ?_)
  clear hK K hSq1
  refine wpAnyH_done (by kernel_rfl) ?_ _
  have hZ2 := hSq2.1
  have hE2 := hSq2.2.1
  have hB2 := hSq2.2.2
  obtain ⟨w2, hw2⟩ : ∃ z, z = (World.drew w1) := ⟨_, rfl⟩
  rw [← hw2] at hZ2 hE2 hB2 ⊢
  clear hSq2 hw2
  go_wp2_with fail
  refine wp_region_held_drew (S := fun x => Blk x (N) n.cells.toArray 86 ∧ EraIs x base eb M E ∧ Below N w x) (by kernel_rfl) ⟨hZ2.drew, hE2.below (below_drewN (Below.refl _ _) 1), below_drewN hB2 1⟩ (fun hSq3 => ?_)
  refine wpAnyH_take (i := 0) (v := .pointer (some ⟨N, 32, none⟩)) rfl (by kernel_rfl) (by kernel_rfl) (by kernel_rfl) (fun _ _ _ h => h) (Or.inl ⟨by rfl, fun x hx => by go_simp⟩) hSq3 ?_
  simp only [Act.put, List.getElem_toArray, List.getElem_cons_zero, List.getElem_cons_succ, List.setIfInBounds_toArray, List.set_cons_zero, List.set_cons_succ]
  refine wpAnyH_take (i := 1) (v := .int .i64 E.f.dep) rfl (by kernel_rfl) (by kernel_rfl) (by kernel_rfl) (fun _ _ _ h => h) (Or.inl ⟨by rfl, fun x hx => by have hc := hx.1.cell 32 _ (note_d n); rw [HND.out] at hc; go_simp⟩) hSq3 ?_
  simp only [Act.put, List.getElem_toArray, List.getElem_cons_zero, List.getElem_cons_succ, List.setIfInBounds_toArray, List.set_cons_zero, List.set_cons_succ]
  refine wpAnyH_take (i := 2) (v := .pointer (some ⟨eb, 0, none⟩)) rfl (by kernel_rfl) (by kernel_rfl) (by kernel_rfl) (fun _ _ _ h => h) (Or.inl ⟨by rfl, fun x hx => by go_simp⟩) hSq3 ?_
  simp only [Act.put, List.getElem_toArray, List.getElem_cons_zero, List.getElem_cons_succ, List.setIfInBounds_toArray, List.set_cons_zero, List.set_cons_succ]
  refine wpAnyH_take (i := 3) (v := .pointer (some ⟨eb, 0, none⟩)) rfl (by kernel_rfl) (by kernel_rfl) (by kernel_rfl) (fun _ _ _ h => h) (Or.inl ⟨by rfl, fun x hx => by go_simp⟩) hSq3 ?_
  simp only [Act.put, List.getElem_toArray, List.getElem_cons_zero, List.getElem_cons_succ, List.setIfInBounds_toArray, List.set_cons_zero, List.set_cons_succ]
  refine wpAnyH_take (i := 4) (v := .pointer (some ⟨eb, 0, none⟩)) rfl (by kernel_rfl) (by kernel_rfl) (by kernel_rfl) (fun _ _ _ h => h) (Or.inl ⟨by rfl, fun x hx => by go_simp⟩) hSq3 ?_
  simp only [Act.put, List.getElem_toArray, List.getElem_cons_zero, List.getElem_cons_succ, List.setIfInBounds_toArray, List.set_cons_zero, List.set_cons_succ]
  refine wpAnyH_take (i := 5) (v := .pointer (some ⟨eb, 64, none⟩)) rfl (by kernel_rfl) (by kernel_rfl) (by kernel_rfl) (fun _ _ _ h => h) (Or.inl ⟨by rfl, fun x hx => by go_simp⟩) hSq3 ?_
  simp only [Act.put, List.getElem_toArray, List.getElem_cons_zero, List.getElem_cons_succ, List.setIfInBounds_toArray, List.set_cons_zero, List.set_cons_succ]
  refine wpAnyH_take (i := 6) (v := .int .i64 E.f.dep) rfl (by kernel_rfl) (by kernel_rfl) (by kernel_rfl) (fun _ _ _ h => h) (Or.inl ⟨by rfl, fun x hx => by have hc := hx.2.1.dep; go_simp⟩) hSq3 ?_
  simp only [Act.put, List.getElem_toArray, List.getElem_cons_zero, List.getElem_cons_succ, List.setIfInBounds_toArray, List.set_cons_zero, List.set_cons_succ]
  refine wpAnyH_take (i := 7) (v := .bool false) rfl (by kernel_rfl) (by kernel_rfl) (by kernel_rfl) (fun _ _ _ h => h) (Or.inl ⟨by rfl, fun x hx => by go_simp⟩) hSq3 ?_
  simp only [Act.put, List.getElem_toArray, List.getElem_cons_zero, List.getElem_cons_succ, List.setIfInBounds_toArray, List.set_cons_zero, List.set_cons_succ]
  refine wpAnyH_ready (rs := [8]) (by kernel_rfl) (by simp) ?_
  refine AllReadyH.cons rfl (fun K hK => ?_) AllReadyH.nil
  go_simp
  refine hK.out _ _ hSq3 (fun hSq4 => ?_)
  clear hK K hSq3
  refine wpAnyH_done (by kernel_rfl) ?_ _
  have hZ3 := hSq4.1
  have hE3 := hSq4.2.1
  have hB3 := hSq4.2.2
  obtain ⟨w3, hw3⟩ : ∃ z, z = (World.drew w2) := ⟨_, rfl⟩
  rw [← hw3] at hZ3 hE3 hB3 ⊢
  clear hSq4 hw3
  go_wp2_with fail
  refine wp_region_held_drew (S := fun x => Blk x (N) n.cells.toArray 86 ∧ EraIs x base eb M E ∧ Below N w x) (by kernel_rfl) ⟨hZ3.drew, hE3.below (below_drewN (Below.refl _ _) 1), below_drewN hB3 1⟩ (fun hSq5 => ?_)
  refine wpAnyH_take (i := 0) (v := .pointer (some ⟨eb, 0, none⟩)) rfl (by kernel_rfl) (by kernel_rfl) (by kernel_rfl) (fun _ _ _ h => h) (Or.inl ⟨by rfl, fun x hx => by go_simp⟩) hSq5 ?_
  simp only [Act.put, List.getElem_toArray, List.getElem_cons_zero, List.getElem_cons_succ, List.setIfInBounds_toArray, List.set_cons_zero, List.set_cons_succ]
  refine wpAnyH_take (i := 1) (v := .pointer (some ⟨eb, 0, none⟩)) rfl (by kernel_rfl) (by kernel_rfl) (by kernel_rfl) (fun _ _ _ h => h) (Or.inl ⟨by rfl, fun x hx => by go_simp⟩) hSq5 ?_
  simp only [Act.put, List.getElem_toArray, List.getElem_cons_zero, List.getElem_cons_succ, List.setIfInBounds_toArray, List.set_cons_zero, List.set_cons_succ]
  refine wpAnyH_take (i := 2) (v := .pointer (some ⟨eb, 0, none⟩)) rfl (by kernel_rfl) (by kernel_rfl) (by kernel_rfl) (fun _ _ _ h => h) (Or.inl ⟨by rfl, fun x hx => by go_simp⟩) hSq5 ?_
  simp only [Act.put, List.getElem_toArray, List.getElem_cons_zero, List.getElem_cons_succ, List.setIfInBounds_toArray, List.set_cons_zero, List.set_cons_succ]
  refine wpAnyH_take (i := 3) (v := .pointer (some ⟨eb, 65, none⟩)) rfl (by kernel_rfl) (by kernel_rfl) (by kernel_rfl) (fun _ _ _ h => h) (Or.inl ⟨by rfl, fun x hx => by go_simp⟩) hSq5 ?_
  simp only [Act.put, List.getElem_toArray, List.getElem_cons_zero, List.getElem_cons_succ, List.setIfInBounds_toArray, List.set_cons_zero, List.set_cons_succ]
  refine wpAnyH_take (i := 4) rfl (by kernel_rfl) (by kernel_rfl) (by kernel_rfl) (fun _ _ _ h => h) (yieldsIf_load_mid (by rfl) 27 (.tmp 40) rfl (eb) (65) (by rfl) ([M.lv E, M.pv E]) _ (fun x hx => era_tree hx.2.1) Tryz.underlying27 rfl (Tryz.sizeTree)) hSq5 ?_
  simp only [Act.put, List.getElem_toArray, List.getElem_cons_zero, List.getElem_cons_succ, List.setIfInBounds_toArray, List.set_cons_zero, List.set_cons_succ]
  refine wpAnyH_take (i := 5) (v := .pointer (some ⟨N, 33, none⟩)) rfl (by kernel_rfl) (by kernel_rfl) (by kernel_rfl) (fun _ _ _ h => h) (Or.inl ⟨by rfl, fun x hx => by go_simp⟩) hSq5 ?_
  simp only [Act.put, List.getElem_toArray, List.getElem_cons_zero, List.getElem_cons_succ, List.setIfInBounds_toArray, List.set_cons_zero, List.set_cons_succ]
  refine wpAnyH_take (i := 6) (v := .int .i64 n.a) rfl (by kernel_rfl) (by kernel_rfl) (by kernel_rfl) (fun _ _ _ h => h) (Or.inl ⟨by rfl, fun x hx => by have hc := hx.1.cell 33 _ (note_a n); go_simp⟩) hSq5 ?_
  simp only [Act.put, List.getElem_toArray, List.getElem_cons_zero, List.getElem_cons_succ, List.setIfInBounds_toArray, List.set_cons_zero, List.set_cons_succ]
  refine wpAnyH_ready (rs := [7]) (by kernel_rfl) (by simp) ?_
  refine AllReadyH.cons rfl (fun K hK => ?_) AllReadyH.nil
  go_simp
  go_wp2_with (go_at_call 71; refine (cP _ hSq5.2.1).mono ?_; rintro e yq6 ⟨rfl, bq7⟩)
  refine hK.out _ _ ⟨hSq5.1.below bq7 hSq5.1.lt, hSq5.2.1.below bq7, hSq5.2.2.trans (bq7.mono (Nat.le_trans (Nat.le_of_eq HN.out) hSq5.2.2.size))⟩ (fun hSq8 => ?_)
  clear hK K hSq5 bq7
  refine wpAnyH_ready (rs := [8]) (by kernel_rfl) (by simp) ?_
  refine AllReadyH.cons rfl (fun K hK => ?_) AllReadyH.nil
  go_simp
  refine hK.out _ _ hSq8 (fun hSq9 => ?_)
  clear hK K hSq8
  refine wpAnyH_done (by kernel_rfl) ?_ _
  have hZ4 := hSq9.1
  have hE4 := hSq9.2.1
  have hB4 := hSq9.2.2
  obtain ⟨w4, hw4⟩ : ∃ z, z = yq6 := ⟨_, rfl⟩
  rw [← hw4] at hZ4 hE4 hB4 ⊢
  clear hSq9 hw4
  go_wp2_with fail
  refine wp_region_held_drew (S := fun x => Blk x (N) n.cells.toArray 86 ∧ EraIs x base eb M E ∧ Below N w x) (by kernel_rfl) ⟨hZ4.drew, hE4.below (below_drewN (Below.refl _ _) 1), below_drewN hB4 1⟩ (fun hSq10 => ?_)
  refine wpAnyH_take (i := 0) (v := .pointer (some ⟨N, 33, none⟩)) rfl (by kernel_rfl) (by kernel_rfl) (by kernel_rfl) (fun _ _ _ h => h) (Or.inl ⟨by rfl, fun x hx => by go_simp⟩) hSq10 ?_
  simp only [Act.put, List.getElem_toArray, List.getElem_cons_zero, List.getElem_cons_succ, List.setIfInBounds_toArray, List.set_cons_zero, List.set_cons_succ]
  refine wpAnyH_take (i := 1) (v := .int .i64 n.a) rfl (by kernel_rfl) (by kernel_rfl) (by kernel_rfl) (fun _ _ _ h => h) (Or.inl ⟨by rfl, fun x hx => by have hc := hx.1.cell 33 _ (note_a n); go_simp⟩) hSq10 ?_
  simp only [Act.put, List.getElem_toArray, List.getElem_cons_zero, List.getElem_cons_succ, List.setIfInBounds_toArray, List.set_cons_zero, List.set_cons_succ]
  refine wpAnyH_take (i := 2) (v := .pointer (some ⟨eb, 0, none⟩)) rfl (by kernel_rfl) (by kernel_rfl) (by kernel_rfl) (fun _ _ _ h => h) (Or.inl ⟨by rfl, fun x hx => by go_simp⟩) hSq10 ?_
  simp only [Act.put, List.getElem_toArray, List.getElem_cons_zero, List.getElem_cons_succ, List.setIfInBounds_toArray, List.set_cons_zero, List.set_cons_succ]
  refine wpAnyH_take (i := 3) (v := .pointer (some ⟨eb, 0, none⟩)) rfl (by kernel_rfl) (by kernel_rfl) (by kernel_rfl) (fun _ _ _ h => h) (Or.inl ⟨by rfl, fun x hx => by go_simp⟩) hSq10 ?_
  simp only [Act.put, List.getElem_toArray, List.getElem_cons_zero, List.getElem_cons_succ, List.setIfInBounds_toArray, List.set_cons_zero, List.set_cons_succ]
  refine wpAnyH_take (i := 4) (v := .pointer (some ⟨eb, 163, none⟩)) rfl (by kernel_rfl) (by kernel_rfl) (by kernel_rfl) (fun _ _ _ h => h) (Or.inl ⟨by rfl, fun x hx => by go_simp⟩) hSq10 ?_
  simp only [Act.put, List.getElem_toArray, List.getElem_cons_zero, List.getElem_cons_succ, List.setIfInBounds_toArray, List.set_cons_zero, List.set_cons_succ]
  refine wpAnyH_take (i := 5) (v := .int .i64 E.me) rfl (by kernel_rfl) (by kernel_rfl) (by kernel_rfl) (fun _ _ _ h => h) (Or.inl ⟨by rfl, fun x hx => by have hc := hx.2.1.me; go_simp⟩) hSq10 ?_
  simp only [Act.put, List.getElem_toArray, List.getElem_cons_zero, List.getElem_cons_succ, List.setIfInBounds_toArray, List.set_cons_zero, List.set_cons_succ]
  refine wpAnyH_take (i := 6) (v := .bool false) rfl (by kernel_rfl) (by kernel_rfl) (by kernel_rfl) (fun _ _ _ h => h) (Or.inl ⟨by rfl, fun x hx => by go_simp⟩) hSq10 ?_
  simp only [Act.put, List.getElem_toArray, List.getElem_cons_zero, List.getElem_cons_succ, List.setIfInBounds_toArray, List.set_cons_zero, List.set_cons_succ]
  refine wpAnyH_ready (rs := [7]) (by kernel_rfl) (by simp) ?_
  refine AllReadyH.cons rfl (fun K hK => ?_) AllReadyH.nil
  go_simp
  refine hK.out _ _ hSq10 (fun hSq11 => ?_)
  clear hK K hSq10
  refine wpAnyH_done (by kernel_rfl) ?_ _
  have hZ5 := hSq11.1
  have hE5 := hSq11.2.1
  have hB5 := hSq11.2.2
  obtain ⟨w5, hw5⟩ : ∃ z, z = (World.drew w4) := ⟨_, rfl⟩
  rw [← hw5] at hZ5 hE5 hB5 ⊢
  clear hSq11 hw5
  go_wp2_with fail
  obtain ⟨ag, hao, hcell⟩ := hE5.rowPtr HR.out
  have HAG : Hid (ag < N) := by show ag < N; exact HAGL.out ag hao
  have HAT : Hid (at_ < M.rs.length) := (List.getElem?_eq_some_iff.1 HR.out).1
  have hat : at_ < M.rs.length := HAT.out
  have hapc := hE5.apps
  rw [hao] at hapc
  have HAO := Lib.hid hao
  have hCE : CellsE N eb ag at_ (.slice (some ⟨ag, 0, none⟩) M.rs.length M.aac) (.pointer (some ⟨r, 0, none⟩)) (.int .i64 E.sn) w5 := ⟨HEL.out, HAG.out, by have := hZ5.lt; omega, hapc, hcell, hE5.sn⟩
  clear hapc hcell hao
  go_cut [9, 10] from 56 to 68 (fun p q wx => ∃ kb, p = .pointer (some ⟨kb, 0, none⟩) ∧ q = .int .i64 (lookT 8 n.g l).2 ∧ Hid (Blk wx N n.cells.toArray 86) ∧ Hid (Blk wx kb ((lookT 8 n.g l).1.map bv).toArray 23) ∧ Hid (EraIs wx base eb M E) ∧ Hid (CellsE N eb ag at_ (.slice (some ⟨ag, 0, none⟩) M.rs.length M.aac) (.pointer (some ⟨r, 0, none⟩)) (.int .i64 E.sn) wx) ∧ Hid (Below N w wx))
  case first =>
    refine wp_region_held_drew (S := fun x => Blk x (N) n.cells.toArray 86 ∧ EraIs x base eb M E ∧ CellsE N eb ag at_ (.slice (some ⟨ag, 0, none⟩) M.rs.length M.aac) (.pointer (some ⟨r, 0, none⟩)) (.int .i64 E.sn) x ∧ Below N w x) (by kernel_rfl) ⟨hZ5.drew, hE5.below (below_drewN (Below.refl _ _) 1), hCE.below (below_drewN (Below.refl _ _) 1), below_drewN hB5 1⟩ (fun hSq12 => ?_)
    refine wpAnyH_take (i := 0) (v := .pointer (some ⟨eb, 0, none⟩)) rfl (by kernel_rfl) (by kernel_rfl) (by kernel_rfl) (fun _ _ _ h => h) (Or.inl ⟨by rfl, fun x hx => by go_simp⟩) hSq12 ?_
    simp only [Act.put, List.getElem_toArray, List.getElem_cons_zero, List.getElem_cons_succ, List.setIfInBounds_toArray, List.set_cons_zero, List.set_cons_succ]
    refine wpAnyH_take (i := 1) (v := .pointer (some ⟨eb, 0, none⟩)) rfl (by kernel_rfl) (by kernel_rfl) (by kernel_rfl) (fun _ _ _ h => h) (Or.inl ⟨by rfl, fun x hx => by go_simp⟩) hSq12 ?_
    simp only [Act.put, List.getElem_toArray, List.getElem_cons_zero, List.getElem_cons_succ, List.setIfInBounds_toArray, List.set_cons_zero, List.set_cons_succ]
    refine wpAnyH_take (i := 2) (v := .pointer (some ⟨eb, 167, none⟩)) rfl (by kernel_rfl) (by kernel_rfl) (by kernel_rfl) (fun _ _ _ h => h) (Or.inl ⟨by rfl, fun x hx => by go_simp⟩) hSq12 ?_
    simp only [Act.put, List.getElem_toArray, List.getElem_cons_zero, List.getElem_cons_succ, List.setIfInBounds_toArray, List.set_cons_zero, List.set_cons_succ]
    refine wpAnyH_take (i := 3) (v := .slice (some ⟨ag, 0, none⟩) M.rs.length M.aac) rfl (by kernel_rfl) (by kernel_rfl) (by kernel_rfl) (fun _ _ _ h => h) (Or.inl ⟨by rfl, fun x hx => by have hc := hx.2.2.1.c1; go_simp⟩) hSq12 ?_
    simp only [Act.put, List.getElem_toArray, List.getElem_cons_zero, List.getElem_cons_succ, List.setIfInBounds_toArray, List.set_cons_zero, List.set_cons_succ]
    refine wpAnyH_take (i := 4) (v := .int .i64 at_) rfl (by kernel_rfl) (by kernel_rfl) (by kernel_rfl) (fun _ _ _ h => h) (Or.inl ⟨by rfl, fun x hx => by go_simp⟩) hSq12 ?_
    simp only [Act.put, List.getElem_toArray, List.getElem_cons_zero, List.getElem_cons_succ, List.setIfInBounds_toArray, List.set_cons_zero, List.set_cons_succ]
    refine wpAnyH_take (i := 5) (v := .pointer (some ⟨ag, at_, none⟩)) rfl (by kernel_rfl) (by kernel_rfl) (by kernel_rfl) (fun _ _ _ h => h) (Or.inl ⟨by rfl, fun x hx => by go_simp⟩) hSq12 ?_
    simp only [Act.put, List.getElem_toArray, List.getElem_cons_zero, List.getElem_cons_succ, List.setIfInBounds_toArray, List.set_cons_zero, List.set_cons_succ]
    refine wpAnyH_take (i := 6) (v := .pointer (some ⟨r, 0, none⟩)) rfl (by kernel_rfl) (by kernel_rfl) (by kernel_rfl) (fun _ _ _ h => h) (Or.inl ⟨by rfl, fun x hx => by have hc := hx.2.2.1.c2; go_simp⟩) hSq12 ?_
    simp only [Act.put, List.getElem_toArray, List.getElem_cons_zero, List.getElem_cons_succ, List.setIfInBounds_toArray, List.set_cons_zero, List.set_cons_succ]
    refine wpAnyH_take (i := 7) (v := .pointer (some ⟨N, 34, none⟩)) rfl (by kernel_rfl) (by kernel_rfl) (by kernel_rfl) (fun _ _ _ h => h) (Or.inl ⟨by rfl, fun x hx => by go_simp⟩) hSq12 ?_
    simp only [Act.put, List.getElem_toArray, List.getElem_cons_zero, List.getElem_cons_succ, List.setIfInBounds_toArray, List.set_cons_zero, List.set_cons_succ]
    refine wpAnyH_take (i := 8) (v := .int .i64 n.g) rfl (by kernel_rfl) (by kernel_rfl) (by kernel_rfl) (fun _ _ _ h => h) (Or.inl ⟨by rfl, fun x hx => by have hc := hx.1.cell 34 _ (note_g n); go_simp⟩) hSq12 ?_
    simp only [Act.put, List.getElem_toArray, List.getElem_cons_zero, List.getElem_cons_succ, List.setIfInBounds_toArray, List.set_cons_zero, List.set_cons_succ]
    refine wpAnyH_ready (rs := [9, 13]) (by kernel_rfl) (by simp) ?_
    refine AllReadyH.cons rfl (fun K hK => ?_) ?_
    · go_simp
      go_wp2_with (go_at_call 48; refine (cLk _ hSq12.2.1).mono ?_; rintro e yq13 ⟨rfl, bq14⟩)
      refine hK.out _ _ ⟨hSq12.1.below bq14 hSq12.1.lt, hSq12.2.1.below bq14, hSq12.2.2.1.below bq14, hSq12.2.2.2.trans (bq14.mono (Nat.le_trans (Nat.le_of_eq HN.out) hSq12.2.2.2.size))⟩ (fun hSq15 => ?_)
      clear hK K hSq12 bq14
      refine wpAnyH_take (i := 10) (v := .tuple #[.agg ((lookT 8 n.g l).1.map bv).toArray, .int .i64 (lookT 8 n.g l).2]) rfl (by kernel_rfl) (by kernel_rfl) (by kernel_rfl) (fun _ _ _ h => h) (Or.inl ⟨by rfl, fun x hx => by go_simp⟩) hSq15 ?_
      simp only [Act.put, List.getElem_toArray, List.getElem_cons_zero, List.getElem_cons_succ, List.setIfInBounds_toArray, List.set_cons_zero, List.set_cons_succ]
      refine wpAnyH_take (i := 11) (v := .agg ((lookT 8 n.g l).1.map bv).toArray) rfl (by kernel_rfl) (by kernel_rfl) (by kernel_rfl) (fun _ _ _ h => h) (Or.inl ⟨by rfl, fun x hx => by go_simp⟩) hSq15 ?_
      simp only [Act.put, List.getElem_toArray, List.getElem_cons_zero, List.getElem_cons_succ, List.setIfInBounds_toArray, List.set_cons_zero, List.set_cons_succ]
      refine wpAnyH_take (i := 12) (v := .int .i64 (lookT 8 n.g l).2) rfl (by kernel_rfl) (by kernel_rfl) (by kernel_rfl) (fun _ _ _ h => h) (Or.inl ⟨by rfl, fun x hx => by go_simp⟩) hSq15 ?_
      simp only [Act.put, List.getElem_toArray, List.getElem_cons_zero, List.getElem_cons_succ, List.setIfInBounds_toArray, List.set_cons_zero, List.set_cons_succ]
      refine wpAnyH_ready (rs := [13]) (by kernel_rfl) (by simp) ?_
      refine AllReadyH.cons rfl (fun K hK => ?_) AllReadyH.nil
      rw [if_pos (by rfl)]
      refine wp_allocZ 23 rfl _ Tryz.zeroHash ?_
      intro gq19 yq17 egq20 ezq21 bq16 hEq18
      have lgq22 : N ≤ gq19 := by rw [egq20]; exact Nat.le_trans (Nat.le_of_eq HN.out) hSq15.2.2.2.size
      have lbq23 : N < gq19 := by rw [egq20]; exact hSq15.1.lt
      refine hK.out _ _ ⟨hSq15.1.below bq16 hSq15.1.lt, hSq15.2.1.below bq16, hSq15.2.2.1.below bq16, hSq15.2.2.2.trans (bq16.mono (Nat.le_trans (Nat.le_of_eq HN.out) hSq15.2.2.2.size))⟩ (fun hSq24 => ?_)
      clear hK K hSq15 bq16 egq20 ezq21
      refine wpAnyH_ready (rs := [14]) (by kernel_rfl) (by simp) ?_
      refine AllReadyH.cons rfl (fun K hK => ?_) AllReadyH.nil
      rw [if_pos (by rfl)]
      have hNk : N ≤ gq19 := by omega
      refine wp_storeBlk 23 (.tmp 9) (.tmp 67) rfl gq19 ((lookT 8 n.g l).1.map bv).toArray (by rfl) (by rfl) _ _ hEq18 (by rw [bv_size, HKL.out]; exact Tryz.sizeHash) (by rw [bv_size, HKL.out, Z32_size]) (bv_all _) ?_
      intro yq25 hEq26 grq27
      refine hK.out _ _ ⟨hSq24.1.grown grq27 (fun e => by have := Option.some.inj e; omega), hSq24.2.1.other2 grq27 hEq18 z32_0 (by decide) (by decide) (by decide) (by decide) (by decide) (by decide), hSq24.2.2.1.kept grq27 hNk, hSq24.2.2.2.grown grq27 (Nat.le_trans (Nat.le_of_eq HN.out) hSq24.2.2.2.size) (fun q e => by cases e; exact hNk)⟩ (fun hSq28 => ?_)
      clear hK K hSq24 hNk
      refine wpAnyH_ready (rs := [15]) (by kernel_rfl) (by simp) ?_
      refine AllReadyH.cons rfl (fun K hK => ?_) AllReadyH.nil
      go_simp
      refine hK.out _ _ hSq28 (fun hSq29 => ?_)
      clear hK K hSq28
      refine wpAnyH_done (by kernel_rfl) ?_ _
      go_wp2_with fail
      go_meet
      exact ⟨gq19, rfl, rfl, hSq29.1, hEq26, hSq29.2.1, hSq29.2.2.1, hSq29.2.2.2⟩
    refine AllReadyH.cons rfl (fun K hK => ?_) AllReadyH.nil
    rw [if_pos (by rfl)]
    refine wp_allocZ 23 rfl _ Tryz.zeroHash ?_
    intro gq33 yq31 egq34 ezq35 bq30 hEq32
    have lgq36 : N ≤ gq33 := by rw [egq34]; exact Nat.le_trans (Nat.le_of_eq HN.out) hSq12.2.2.2.size
    have lbq37 : N < gq33 := by rw [egq34]; exact hSq12.1.lt
    refine hK.out _ _ ⟨hSq12.1.below bq30 hSq12.1.lt, hSq12.2.1.below bq30, hSq12.2.2.1.below bq30, hSq12.2.2.2.trans (bq30.mono (Nat.le_trans (Nat.le_of_eq HN.out) hSq12.2.2.2.size))⟩ (fun hSq38 => ?_)
    clear hK K hSq12 bq30 egq34 ezq35
    refine wpAnyH_ready (rs := [9]) (by kernel_rfl) (by simp) ?_
    refine AllReadyH.cons rfl (fun K hK => ?_) AllReadyH.nil
    go_simp
    go_wp2_with (go_at_call 48; refine (cLk _ hSq38.2.1).mono ?_; rintro e yq39 ⟨rfl, bq40⟩)
    have hEq41 := hEq32.below bq40 hEq32.lt
    refine hK.out _ _ ⟨hSq38.1.below bq40 hSq38.1.lt, hSq38.2.1.below bq40, hSq38.2.2.1.below bq40, hSq38.2.2.2.trans (bq40.mono (Nat.le_trans (Nat.le_of_eq HN.out) hSq38.2.2.2.size))⟩ (fun hSq42 => ?_)
    clear hK K hSq38 bq40
    refine wpAnyH_take (i := 10) (v := .tuple #[.agg ((lookT 8 n.g l).1.map bv).toArray, .int .i64 (lookT 8 n.g l).2]) rfl (by kernel_rfl) (by kernel_rfl) (by kernel_rfl) (fun _ _ _ h => h) (Or.inl ⟨by rfl, fun x hx => by go_simp⟩) hSq42 ?_
    simp only [Act.put, List.getElem_toArray, List.getElem_cons_zero, List.getElem_cons_succ, List.setIfInBounds_toArray, List.set_cons_zero, List.set_cons_succ]
    refine wpAnyH_take (i := 11) (v := .agg ((lookT 8 n.g l).1.map bv).toArray) rfl (by kernel_rfl) (by kernel_rfl) (by kernel_rfl) (fun _ _ _ h => h) (Or.inl ⟨by rfl, fun x hx => by go_simp⟩) hSq42 ?_
    simp only [Act.put, List.getElem_toArray, List.getElem_cons_zero, List.getElem_cons_succ, List.setIfInBounds_toArray, List.set_cons_zero, List.set_cons_succ]
    refine wpAnyH_take (i := 12) (v := .int .i64 (lookT 8 n.g l).2) rfl (by kernel_rfl) (by kernel_rfl) (by kernel_rfl) (fun _ _ _ h => h) (Or.inl ⟨by rfl, fun x hx => by go_simp⟩) hSq42 ?_
    simp only [Act.put, List.getElem_toArray, List.getElem_cons_zero, List.getElem_cons_succ, List.setIfInBounds_toArray, List.set_cons_zero, List.set_cons_succ]
    refine wpAnyH_ready (rs := [14]) (by kernel_rfl) (by simp) ?_
    refine AllReadyH.cons rfl (fun K hK => ?_) AllReadyH.nil
    rw [if_pos (by rfl)]
    have hNk : N ≤ gq33 := by omega
    refine wp_storeBlk 23 (.tmp 9) (.tmp 67) rfl gq33 ((lookT 8 n.g l).1.map bv).toArray (by rfl) (by rfl) _ _ hEq41 (by rw [bv_size, HKL.out]; exact Tryz.sizeHash) (by rw [bv_size, HKL.out, Z32_size]) (bv_all _) ?_
    intro yq43 hEq44 grq45
    refine hK.out _ _ ⟨hSq42.1.grown grq45 (fun e => by have := Option.some.inj e; omega), hSq42.2.1.other2 grq45 hEq41 z32_0 (by decide) (by decide) (by decide) (by decide) (by decide) (by decide), hSq42.2.2.1.kept grq45 hNk, hSq42.2.2.2.grown grq45 (Nat.le_trans (Nat.le_of_eq HN.out) hSq42.2.2.2.size) (fun q e => by cases e; exact hNk)⟩ (fun hSq46 => ?_)
    clear hK K hSq42 hNk
    refine wpAnyH_ready (rs := [15]) (by kernel_rfl) (by simp) ?_
    refine AllReadyH.cons rfl (fun K hK => ?_) AllReadyH.nil
    go_simp
    refine hK.out _ _ hSq46 (fun hSq47 => ?_)
    clear hK K hSq46
    refine wpAnyH_done (by kernel_rfl) ?_ _
    go_wp2_with fail
    go_meet
    exact ⟨gq33, rfl, rfl, hSq47.1, hEq44, hSq47.2.1, hSq47.2.2.1, hSq47.2.2.2⟩
  case rest =>
    obtain ⟨kb, rfl, rfl, hZ6, hK6, hE6, hC6, hB6⟩ := hcut
    clear hZ5 hE5 hB5 hCE
    by_cases hk : (lookT 8 n.g l).2 = 0
    case neg =>
      go_wp2_with fail
      go_returns
      exact .inl ⟨hk, rfl, by rw [← HN.out]; exact hB6.out⟩
    case pos =>
      have hz6 := hZ6.out
      have hk6 := hK6.out
      have he6 := hE6.out
      have hc6 := hC6.out
      have hb6 := hB6.out
      have HK0 := Lib.hid hk
      clear hZ6 hK6 hE6 hC6 hB6
      go_wp2_with fail
      refine wp_region_held_drew (S := fun x => Blk x (N) n.cells.toArray 86 ∧ Blk x (kb) ((lookT 8 n.g l).1.map bv).toArray 23 ∧ EraIs x base eb M E ∧ CellsE N eb ag at_ (.slice (some ⟨ag, 0, none⟩) M.rs.length M.aac) (.pointer (some ⟨r, 0, none⟩)) (.int .i64 E.sn) x ∧ Below N w x) (by kernel_rfl) ⟨hz6.drew, hk6.drew, he6.below (below_drewN (Below.refl _ _) 1), hc6.below (below_drewN (Below.refl _ _) 1), below_drewN hb6 1⟩ (fun hSq48 => ?_)
      refine wpAnyH_take (i := 0) rfl (by kernel_rfl) (by kernel_rfl) (by kernel_rfl) (fun _ _ _ h => h) (yieldsIf_load_mid (by rfl) 23 (.tmp 9) rfl (kb) (0) (by rfl) (((lookT 8 n.g l).1.map bv)) _ (fun x hx => blk_rangeP hx.2.1) Tryz.underlying23 rfl (by rw [List.length_map, HKL.out]; exact Tryz.sizeHash)) hSq48 ?_
      simp only [Act.put, List.getElem_toArray, List.getElem_cons_zero, List.getElem_cons_succ, List.setIfInBounds_toArray, List.set_cons_zero, List.set_cons_succ]
      refine wpAnyH_take (i := 1) rfl (by kernel_rfl) (by kernel_rfl) (by kernel_rfl) (fun _ _ _ h => h) (yieldsIf_load_mid (by rfl) 86 (.tmp 5) rfl (N) (0) (by rfl) (n.cells) _ (fun x hx => blk_rangeP hx.1) Tryz.underlying86 rfl (by rw [n.cells_len]; exact Tryz.sizeNote)) hSq48 ?_
      simp only [Act.put, List.getElem_toArray, List.getElem_cons_zero, List.getElem_cons_succ, List.setIfInBounds_toArray, List.set_cons_zero, List.set_cons_succ]
      refine wpAnyH_take (i := 3) (v := .pointer (some ⟨N, 35, none⟩)) rfl (by kernel_rfl) (by kernel_rfl) (by kernel_rfl) (fun _ _ _ h => h) (Or.inl ⟨by rfl, fun x hx => by go_simp⟩) hSq48 ?_
      simp only [Act.put, List.getElem_toArray, List.getElem_cons_zero, List.getElem_cons_succ, List.setIfInBounds_toArray, List.set_cons_zero, List.set_cons_succ]
      refine wpAnyH_take (i := 4) (v := .string (str n.s)) rfl (by kernel_rfl) (by kernel_rfl) (by kernel_rfl) (fun _ _ _ h => h) (Or.inl ⟨by rfl, fun x hx => by have hc := hx.1.cell 35 _ (note_s n); go_simp⟩) hSq48 ?_
      simp only [Act.put, List.getElem_toArray, List.getElem_cons_zero, List.getElem_cons_succ, List.setIfInBounds_toArray, List.set_cons_zero, List.set_cons_succ]
      refine wpAnyH_ready (rs := [2]) (by kernel_rfl) (by simp) ?_
      refine AllReadyH.cons rfl (fun K hK => ?_) AllReadyH.nil
      go_simp
      go_wp2_with (go_at_call 103; refine (cH _).mono ?_; rintro e yq49 ⟨rfl, bq50⟩)
      refine hK.out _ _ ⟨hSq48.1.below bq50 hSq48.1.lt, hSq48.2.1.below bq50 hSq48.2.1.lt, hSq48.2.2.1.below bq50, hSq48.2.2.2.1.below bq50, hSq48.2.2.2.2.trans (bq50.mono (Nat.le_trans (Nat.le_of_eq HN.out) hSq48.2.2.2.2.size))⟩ (fun hSq51 => ?_)
      clear hK K hSq48 bq50
      refine wpAnyH_ready (rs := [5]) (by kernel_rfl) (by simp) ?_
      refine AllReadyH.cons rfl (fun K hK => ?_) AllReadyH.nil
      go_simp
      go_wp2_with (go_at_call 105; refine (cO _).mono ?_; rintro e yq52 ⟨rfl, bq53⟩)
      refine hK.out _ _ ⟨hSq51.1.below bq53 hSq51.1.lt, hSq51.2.1.below bq53 hSq51.2.1.lt, hSq51.2.2.1.below bq53, hSq51.2.2.2.1.below bq53, hSq51.2.2.2.2.trans (bq53.mono (Nat.le_trans (Nat.le_of_eq HN.out) hSq51.2.2.2.2.size))⟩ (fun hSq54 => ?_)
      clear hK K hSq51 bq53
      refine wpAnyH_take (i := 6) (v := .tuple #[.string (str (openV (lookT 8 n.g l).1 (headN n) n.s).1), .int .i64 (openV (lookT 8 n.g l).1 (headN n) n.s).2]) rfl (by kernel_rfl) (by kernel_rfl) (by kernel_rfl) (fun _ _ _ h => h) (Or.inl ⟨by rfl, fun x hx => by go_simp⟩) hSq54 ?_
      simp only [Act.put, List.getElem_toArray, List.getElem_cons_zero, List.getElem_cons_succ, List.setIfInBounds_toArray, List.set_cons_zero, List.set_cons_succ]
      refine wpAnyH_take (i := 7) (v := .string (str (openV (lookT 8 n.g l).1 (headN n) n.s).1)) rfl (by kernel_rfl) (by kernel_rfl) (by kernel_rfl) (fun _ _ _ h => h) (Or.inl ⟨by rfl, fun x hx => by go_simp⟩) hSq54 ?_
      simp only [Act.put, List.getElem_toArray, List.getElem_cons_zero, List.getElem_cons_succ, List.setIfInBounds_toArray, List.set_cons_zero, List.set_cons_succ]
      refine wpAnyH_take (i := 8) (v := .int .i64 (openV (lookT 8 n.g l).1 (headN n) n.s).2) rfl (by kernel_rfl) (by kernel_rfl) (by kernel_rfl) (fun _ _ _ h => h) (Or.inl ⟨by rfl, fun x hx => by go_simp⟩) hSq54 ?_
      simp only [Act.put, List.getElem_toArray, List.getElem_cons_zero, List.getElem_cons_succ, List.setIfInBounds_toArray, List.set_cons_zero, List.set_cons_succ]
      refine wpAnyH_ready (rs := [9]) (by kernel_rfl) (by simp) ?_
      refine AllReadyH.cons rfl (fun K hK => ?_) AllReadyH.nil
      go_simp
      refine hK.out _ _ hSq54 (fun hSq55 => ?_)
      clear hK K hSq54
      refine wpAnyH_ready (rs := [10]) (by kernel_rfl) (by simp) ?_
      refine AllReadyH.cons rfl (fun K hK => ?_) AllReadyH.nil
      go_simp
      refine hK.out _ _ hSq55 (fun hSq56 => ?_)
      clear hK K hSq55
      refine wpAnyH_done (by kernel_rfl) ?_ _
      have hZ7 := hSq56.1
      have hE7 := hSq56.2.2.1
      have hC7 := hSq56.2.2.2.1
      have hB7 := hSq56.2.2.2.2
      obtain ⟨w7, hw7⟩ : ∃ z, z = yq52 := ⟨_, rfl⟩
      rw [← hw7] at hZ7 hE7 hC7 hB7 ⊢
      clear hSq56 hw7
      by_cases ho : (openV (lookT 8 n.g l).1 (headN n) n.s).2 = 0
      case neg =>
        go_wp2_with fail
        go_returns
        exact .inr (.inl ⟨HK0.out, ho, rfl, by rw [← HN.out]; exact hB7⟩)
      case pos =>
        have HE7 := Lib.hid hE7
        have hG7 : Gr w r w7 := ⟨below_grown (by rw [← HN.out]; exact hB7) _⟩
        have hbB7 : Below base w w7 := hB7.mono (by rw [HN.out]; exact HBN.out)
        clear hE7 hB7
        go_wp2_with fail
        refine wp_region_held_drew (S := fun x => Blk x (N) n.cells.toArray 86 ∧ CellsE N eb ag at_ (.slice (some ⟨ag, 0, none⟩) M.rs.length M.aac) (.pointer (some ⟨r, 0, none⟩)) (.int .i64 E.sn) x ∧ Gr w r x ∧ Below base w x) (by kernel_rfl) ⟨hZ7.drew, hC7.below (below_drewN (Below.refl _ _) 1), hG7.below (below_drewN (Below.refl _ _) 1), below_drewN hbB7 1⟩ (fun hSq57 => ?_)
        have hHq58 := Lib.hid (HE7.out.drew)
        refine wpAnyH_take (i := 0) (v := .pointer (some ⟨eb, 0, none⟩)) rfl (by kernel_rfl) (by kernel_rfl) (by kernel_rfl) (fun _ _ _ h => h) (Or.inl ⟨by rfl, fun x hx => by go_simp⟩) hSq57 ?_
        simp only [Act.put, List.getElem_toArray, List.getElem_cons_zero, List.getElem_cons_succ, List.setIfInBounds_toArray, List.set_cons_zero, List.set_cons_succ]
        refine wpAnyH_take (i := 1) (v := .pointer (some ⟨eb, 0, none⟩)) rfl (by kernel_rfl) (by kernel_rfl) (by kernel_rfl) (fun _ _ _ h => h) (Or.inl ⟨by rfl, fun x hx => by go_simp⟩) hSq57 ?_
        simp only [Act.put, List.getElem_toArray, List.getElem_cons_zero, List.getElem_cons_succ, List.setIfInBounds_toArray, List.set_cons_zero, List.set_cons_succ]
        refine wpAnyH_take (i := 2) (v := .pointer (some ⟨eb, 167, none⟩)) rfl (by kernel_rfl) (by kernel_rfl) (by kernel_rfl) (fun _ _ _ h => h) (Or.inl ⟨by rfl, fun x hx => by go_simp⟩) hSq57 ?_
        simp only [Act.put, List.getElem_toArray, List.getElem_cons_zero, List.getElem_cons_succ, List.setIfInBounds_toArray, List.set_cons_zero, List.set_cons_succ]
        refine wpAnyH_take (i := 3) (v := .slice (some ⟨ag, 0, none⟩) M.rs.length M.aac) rfl (by kernel_rfl) (by kernel_rfl) (by kernel_rfl) (fun _ _ _ h => h) (Or.inl ⟨by rfl, fun x hx => by have hc := hx.2.1.c1; go_simp⟩) hSq57 ?_
        simp only [Act.put, List.getElem_toArray, List.getElem_cons_zero, List.getElem_cons_succ, List.setIfInBounds_toArray, List.set_cons_zero, List.set_cons_succ]
        refine wpAnyH_take (i := 4) (v := .int .i64 at_) rfl (by kernel_rfl) (by kernel_rfl) (by kernel_rfl) (fun _ _ _ h => h) (Or.inl ⟨by rfl, fun x hx => by go_simp⟩) hSq57 ?_
        simp only [Act.put, List.getElem_toArray, List.getElem_cons_zero, List.getElem_cons_succ, List.setIfInBounds_toArray, List.set_cons_zero, List.set_cons_succ]
        refine wpAnyH_take (i := 5) (v := .pointer (some ⟨ag, at_, none⟩)) rfl (by kernel_rfl) (by kernel_rfl) (by kernel_rfl) (fun _ _ _ h => h) (Or.inl ⟨by rfl, fun x hx => by go_simp⟩) hSq57 ?_
        simp only [Act.put, List.getElem_toArray, List.getElem_cons_zero, List.getElem_cons_succ, List.setIfInBounds_toArray, List.set_cons_zero, List.set_cons_succ]
        refine wpAnyH_take (i := 6) (v := .pointer (some ⟨r, 0, none⟩)) rfl (by kernel_rfl) (by kernel_rfl) (by kernel_rfl) (fun _ _ _ h => h) (Or.inl ⟨by rfl, fun x hx => by have hc := hx.2.1.c2; go_simp⟩) hSq57 ?_
        simp only [Act.put, List.getElem_toArray, List.getElem_cons_zero, List.getElem_cons_succ, List.setIfInBounds_toArray, List.set_cons_zero, List.set_cons_succ]
        refine wpAnyH_take (i := 7) (v := .pointer none) rfl (by kernel_rfl) (by kernel_rfl) (by kernel_rfl) (fun _ _ _ h => h) (Or.inl ⟨by rfl, fun x hx => by go_simp⟩) hSq57 ?_
        simp only [Act.put, List.getElem_toArray, List.getElem_cons_zero, List.getElem_cons_succ, List.setIfInBounds_toArray, List.set_cons_zero, List.set_cons_succ]
        refine wpAnyH_take (i := 8) (v := .pointer (some ⟨N, 34, none⟩)) rfl (by kernel_rfl) (by kernel_rfl) (by kernel_rfl) (fun _ _ _ h => h) (Or.inl ⟨by rfl, fun x hx => by go_simp⟩) hSq57 ?_
        simp only [Act.put, List.getElem_toArray, List.getElem_cons_zero, List.getElem_cons_succ, List.setIfInBounds_toArray, List.set_cons_zero, List.set_cons_succ]
        refine wpAnyH_take (i := 9) (v := .int .i64 n.g) rfl (by kernel_rfl) (by kernel_rfl) (by kernel_rfl) (fun _ _ _ h => h) (Or.inl ⟨by rfl, fun x hx => by have hc := hx.1.cell 34 _ (note_g n); go_simp⟩) hSq57 ?_
        simp only [Act.put, List.getElem_toArray, List.getElem_cons_zero, List.getElem_cons_succ, List.setIfInBounds_toArray, List.set_cons_zero, List.set_cons_succ]
        refine wpAnyH_ready (rs := [10]) (by kernel_rfl) (by simp) ?_
        refine AllReadyH.cons rfl (fun K hK => ?_) AllReadyH.nil
        go_simp
        go_wp2_with (go_at_call 21; refine (cT _ hHq58.out).mono ?_; rintro e yq59 ⟨rfl, hTq60⟩)
        have gq61 := hTq60.out.2.1
        obtain ⟨_, hrv⟩ := hTq60.out.2.2.slot
        have hHq63 := Lib.hid hTq60.out.1
        have hcl2 := hHq63.out.apps
        rw [HAO.out] at hcl2
        obtain ⟨ag2, e2, hpt2⟩ := hHq63.out.rowPtr HR.out
        rw [HAO.out] at e2
        cases e2
        refine hK.out _ _ ⟨hSq57.1.grown gq61 (fun e => blk_ne hSq57.1 hrv (by decide) (Option.some.inj e)), ⟨hSq57.2.1.he, hSq57.2.1.ha, Nat.le_trans hSq57.2.1.hn gq61.size, hcl2, hpt2, hHq63.out.sn⟩, ⟨grown_trans hSq57.2.2.1.g gq61⟩, hSq57.2.2.2.grown gq61 (Nat.le_trans HBN.out hSq57.2.2.2.size) (fun q e => by cases e; exact hbr)⟩ (fun hSq62 => ?_)
        clear hK K hSq57 hHq58 hTq60 gq61 hrv hcl2 hpt2
        refine wpAnyH_done (by kernel_rfl) ?_ _
        have hgz := hSq62.2.2.1
        have hez := hHq63.out
        clear hSq62 hHq63
        go_wp2_with fail
        go_returns
        exact .inr (.inr ⟨HK0.out, ho, rfl, hez, hgz⟩)
end Go.Proofs.YtjlpdbaknhbgdaaGreat
