/-
  chat.Protect with a nil book.
-/
import Derived.Test.YtjlpdbaknhbgdaaGreatQGrp
import Derived.Test.YtjlpdbaknhbgdaaGreatQChat
import Derived.Test.YtjlpdbaknhbgdaaGreatQSeal
import Derived.Test.YtjlpdbaknhbgdaaGreatQEra
import Derived.Test.YtjlpdbaknhbgdaaGreatPprTake
import Derived.WalkLawsBesides
import Derived.Deep.RegionHeld
import Derived.Deep.Cut
import Derived.Outline
import Derived.Handy
set_option linter.unusedSimpArgs false
set_option linter.unusedVariables false
namespace Go.Proofs.YtjlpdbaknhbgdaaGreat
open Go.RowKit

def noteE (E : EraD) (s : List UInt8) : NoteA := ⟨E.f.id, E.f.dep, E.me, E.sn, s, E.f.hi⟩
def protN (E : EraD) (key s : List UInt8) : NoteA := noteE E (sealT key (headN (noteE E [])) s)
def zeroN : NoteA := ⟨z32L, 0, 0, 0, [], rfl⟩
abbrev ZNL : Array Value := #[.int .u8 0, .int .u8 0, .int .u8 0, .int .u8 0, .int .u8 0, .int .u8 0, .int .u8 0, .int .u8 0, .int .u8 0, .int .u8 0, .int .u8 0, .int .u8 0, .int .u8 0, .int .u8 0, .int .u8 0, .int .u8 0, .int .u8 0, .int .u8 0, .int .u8 0, .int .u8 0, .int .u8 0, .int .u8 0, .int .u8 0, .int .u8 0, .int .u8 0, .int .u8 0, .int .u8 0, .int .u8 0, .int .u8 0, .int .u8 0, .int .u8 0, .int .u8 0, .int .i64 0, .int .i64 0, .int .i64 0, .string { data := #[] }]
theorem Tryz.zeroNote : (Tryz.prog.info? 86).bind (·.zero) = some (.agg zeroN.cells.toArray) := by kernel_rfl
theorem note_all (n : NoteA) : n.cells.toArray.all (·.oneCell') = true := by
  rw [List.all_toArray, List.all_eq_true]
  intro u hu
  simp only [NoteA.cells, List.mem_append, List.mem_map, List.mem_cons, List.not_mem_nil, or_false] at hu
  rcases hu with ⟨b, _, rfl⟩ | rfl | rfl | rfl | rfl <;> rfl
theorem Tryz.builtNote (E : EraD) : Tryz.prog.built 86 [(0, .agg (E.f.id.map bv).toArray), (1, .int .i64 E.f.dep), (2, .int .i64 E.me), (3, .int .i64 E.sn)] = some (noteE E []).cells.toArray := by
  rw [built_struct Tryz.zeroNote Tryz.underlying86 (places := [(0, 32), (32, 1), (33, 1), (34, 1), (35, 1)]) (by kernel_rfl), Value.cells]
  refine (fill_midV (A := []) (B := z32L.map bv) (C := [.int .i64 0, .int .i64 0, .int .i64 0, .string (str [])]) (v := E.f.id.map bv) rfl rfl (by simp [E.f.hi]) (by simp [E.f.hi, z32L])).trans ?_
  refine (fill_midV (A := E.f.id.map bv) (B := [.int .i64 0]) (C := [.int .i64 0, .int .i64 0, .string (str [])]) (v := [.int .i64 E.f.dep]) rfl (by simp) (by simp [E.f.hi]) rfl).trans ?_
  refine (fill_midV (A := E.f.id.map bv ++ [.int .i64 E.f.dep]) (B := [.int .i64 0]) (C := [.int .i64 0, .string (str [])]) (v := [.int .i64 E.me]) rfl (by simp) (by simp [E.f.hi]) rfl).trans ?_
  refine (fill_midV (A := E.f.id.map bv ++ [.int .i64 E.f.dep, .int .i64 E.me]) (B := [.int .i64 0]) (C := [.string (str [])]) (v := [.int .i64 E.sn]) rfl (by simp) (by simp [E.f.hi]) rfl).trans ?_
  simp [Instr.fill, noteE, NoteA.cells]
theorem note_setS (n : NoteA) (s : List UInt8) : n.cells.toArray.setIfInBounds 35 (.string (str s)) = (NoteA.cells { n with s := s }).toArray := by
  rw [List.setIfInBounds_toArray, NoteA.cells, List.set_append_right _ _ (by simp [n.hh])]
  simp [n.hh, NoteA.cells]
theorem EraIs.other2 {w w' : World} {base eb r : Nat} {M : EraM} {E : EraD} {cs : Array Value} {t : TypeId} (h : EraIs w base eb M E) (g : w.grownBy w' (some r)) (hr : Blk w r cs t) (h0 : ∃ u, cs[0]? = some u ∧ ∀ n, u ≠ .int .i64 n) (hne : 57 ≠ t) (h1 : 144 ≠ t) (h2 : 126 ≠ t) (h3 : 3 ≠ t) (h4 : 142 ≠ t) (h5 : 54 ≠ t) : EraIs w' base eb M E :=
  h.other g hr h0 (blk_ne h.blk hr hne) h1 h2 h3 h4 h5
/-- The cells of an era that Protect reads ahead of Take. -/
structure CellsE (N eb ag k : Nat) (av pv sv : Value) (x : World) : Prop where
  he : eb < N
  ha : ag < N
  hn : N ≤ x.heap.size
  c1 : x.cell? ⟨eb, 167, none⟩ = some av
  c2 : x.cell? ⟨ag, k, none⟩ = some pv
  c3 : x.cell? ⟨eb, 168, none⟩ = some sv
theorem cell_grown {w w' : World} {r : Option Nat} {b o : Nat} {v : Value} (h : w.cell? ⟨b, o, none⟩ = some v) (hb : b < w.heap.size) (g : w.grownBy w' r) (hr : some b ≠ r) : w'.cell? ⟨b, o, none⟩ = some v := by
  have e := g.block b hb hr
  simp only [World.cell?, e] at h ⊢
  exact h
theorem CellsE.below {N eb ag k : Nat} {av pv sv : Value} {x y : World} (h : CellsE N eb ag k av pv sv x) (b : Below x.heap.size x y) : CellsE N eb ag k av pv sv y :=
  ⟨h.he, h.ha, Nat.le_trans h.hn b.size, (b.cell (p := ⟨eb, 167, none⟩) (Nat.lt_of_lt_of_le h.he h.hn)).trans h.c1, (b.cell (p := ⟨ag, k, none⟩) (Nat.lt_of_lt_of_le h.ha h.hn)).trans h.c2, (b.cell (p := ⟨eb, 168, none⟩) (Nat.lt_of_lt_of_le h.he h.hn)).trans h.c3⟩
theorem CellsE.kept {N eb ag k q : Nat} {av pv sv : Value} {x y : World} (h : CellsE N eb ag k av pv sv x) (g : x.grownBy y (some q)) (hq : N ≤ q) : CellsE N eb ag k av pv sv y :=
  ⟨h.he, h.ha, Nat.le_trans h.hn g.size, cell_grown h.c1 (Nat.lt_of_lt_of_le h.he h.hn) g (fun e => by have := Option.some.inj e; have := h.he; omega), cell_grown h.c2 (Nat.lt_of_lt_of_le h.ha h.hn) g (fun e => by have := Option.some.inj e; have := h.ha; omega), cell_grown h.c3 (Nat.lt_of_lt_of_le h.he h.hn) g (fun e => by have := Option.some.inj e; have := h.he; omega)⟩
theorem eraC_len (M : EraM) (E : EraD) : (eraC M E).length = 201 := eraCells_len _ _ _ _ _ _ _ _ _ _ E.hx
theorem note_0 (n : NoteA) : ∃ u, n.cells.toArray[0]? = some u ∧ ∀ m, u ≠ .int .i64 m := by
  have h := n.hh
  cases e : n.h with
  | nil => rw [e] at h; simp at h
  | cons a l => exact ⟨bv a, by rw [List.getElem?_toArray]; simp [NoteA.cells, e], by intro m e; cases e⟩
theorem zn_0 : ∃ u, zeroN.cells.toArray[0]? = some u ∧ ∀ n, u ≠ .int .i64 n := note_0 _
theorem wrap_add1 (x : Int) (h0 : 0 ≤ x) (h1 : x < 256) : wrap64 (x + 1) = x + 1 := by unfold wrap64; omega
theorem z32_0 : ∃ u, Z32[0]? = some u ∧ ∀ n, u ≠ .int .i64 n := ⟨bv 0, rfl, by intro n e; cases e⟩
theorem Tryz.sizeInt1 : (Tryz.prog.info? 3).map (·.size) = some 1 := by kernel_rfl
theorem Tryz.sizeStr1 : (Tryz.prog.info? 9).map (·.size) = some 1 := by kernel_rfl
set_option maxHeartbeats 16000000 in
set_option maxRecDepth 100000 in
theorem Protect_calls (base eb : Nat) (M : EraM) (E : EraD) (w : World) (h : EraIs w base eb M E) (hn : E.T.leaves.length ≤ 1000000) (hm : E.T.pars.length ≤ 1000000) (at_ r : Nat) (l : List Sd) (hp : placeT E.T E.me = (at_ : Int)) (hr : M.rs[at_]? = some (some r)) (hl : E.apps[at_]? = some (some l)) (hok : RowOk 8 l) (s : List UInt8) (hs : s.length ≤ 1024) (h0 : 0 ≤ E.sn) (h1 : E.sn < 256) (hkey : (lookT 8 E.sn l).2 = 0)
    (hd0 : 0 ≤ E.f.dep) (hd1 : E.f.dep ≤ 4611686018427387903) (hm0 : 1 ≤ E.me) (hm1 : E.me ≤ 64) :
    Calls Tryz.prog 33 #[.pointer none, .pointer (some ⟨eb, 0, none⟩), .string (str s)] w fun e w' => e = .returned (.tuple #[.agg (protN E (lookT 8 E.sn l).1 s).cells.toArray, .int .i64 0]) ∧ EraIs w' base eb M ((E.took at_ (takeT 8 E.sn l)).said (E.sn + 1)) ∧ Gr2 w r eb w' := by
  obtain ⟨N, hN⟩ : ∃ N, N = w.heap.size := ⟨_, rfl⟩
  have HN : Hid (N = w.heap.size) := hN
  have hZ : Blk (w.alloc (.cells ZNL 86)) N zeroN.cells.toArray 86 := by rw [hN]; exact Blk.new _ _ _
  have hb0 : Below w.heap.size w (w.alloc (.cells ZNL 86)) := below_alloc1 _ _
  have HE0 : Hid (EraIs (w.alloc (.cells ZNL 86)) base eb M E) := h.below hb0
  have HG0 : Hid (Gr2 w r eb (w.alloc (.cells ZNL 86))) := (Gr2.refl w r eb).below hb0
  have HR := Lib.hid hr
  have HL := Lib.hid hl
  have HOK := Lib.hid hok
  have HKE := Lib.hid hkey
  have HSN : Hid (0 ≤ E.sn ∧ E.sn < 256) := ⟨h0, h1⟩
  have HEL : Hid (eb < N) := by show eb < N; rw [hN]; exact h.blk.lt
  have hbe : base ≤ eb := h.hb
  have hbr : base ≤ r := (h.rowAt hr hl).2
  have HAGL : Hid (∀ g, M.ao = some ⟨g, 0, none⟩ → g < N) := by
    intro g e
    have := ROwn.lt h.av g (by rw [e]; rfl)
    rw [hN]; exact this.2
  have HRL : Hid (r < N) := by show r < N; rw [hN]; exact (h.rowAt hr hl).1.lt
  have HBN : Hid (base ≤ w.heap.size) := by have e1 := HEL.out; have e2 := HN.out; show base ≤ w.heap.size; omega
  have hbB : Below base w (w.alloc (.cells ZNL 86)) := hb0.mono HBN.out
  have HKL : Hid ((lookT 8 E.sn l).1.length = 32) := lookT_len _ _ _
  have HRT : Hid (rightN (noteE E []) = true) := by show _ = true; unfold rightN; simp only [Bool.and_eq_true, decide_eq_true_eq]; exact ⟨hd0, hd1, hm0, hm1, h0, (show E.sn ≤ 255 by omega), Nat.zero_le _⟩
  have HIL : Hid (E.f.id.length = 32) := E.f.hi
  have hhl := headN_len (noteE E [])
  have cP : ∀ y, EraIs y base eb M E → Calls Tryz.prog 23 #[.pointer (some ⟨eb, 0, none⟩)] y fun e w' => e = .returned (.int .i64 at_) ∧ Below y.heap.size y w' := fun y hy => by rw [← hp]; exact EPlace_calls base eb M E y hy hn hm
  have cT : ∀ y, EraIs y base eb M E → Calls Tryz.prog 21 #[.pointer (some ⟨r, 0, none⟩), .pointer none, .int .i64 E.sn] y fun e w' => e = .returned (.tuple #[.agg ((lookT 8 E.sn l).1.map bv).toArray, .int .i64 0]) ∧ Hid (EraIs w' base eb M (E.took at_ (takeT 8 E.sn l)) ∧ y.grownBy w' (some r) ∧ RowAt y r 8 l) := fun y hy =>
    (Take_calls r 8 E.sn l y (hy.rowAt HR.out HL.out).1 (by omega) HOK.out (by have := HSN.out; omega) (by have := HSN.out; omega)).mono (by
      rintro e w' ⟨he, hR, g⟩
      rw [HKE.out] at he
      exact ⟨he, hy.took HR.out HL.out g hR, g, (hy.rowAt HR.out HL.out).1⟩)
  have cH : ∀ y, Calls Tryz.prog 103 #[.agg (noteE E []).cells.toArray] y fun e w' => e = .returned (.string (str (headN (noteE E [])))) ∧ Below y.heap.size y w' := fun y => head_calls _ y HRT.out
  have cS : ∀ y, Calls Tryz.prog 102 #[.pointer none, .agg ((lookT 8 E.sn l).1.map bv).toArray, .string (str (headN (noteE E []))), .string (str s), .slice none 0 0] y fun e w' => e = .returned (.string (str (sealT (lookT 8 E.sn l).1 (headN (noteE E [])) s))) ∧ Below y.heap.size y w' := fun y => Seal_calls _ _ _ y HKL.out (by omega) (by omega)
  have cN : ∀ y, Calls Tryz.prog 35 #[.agg (E.f.id.map bv).toArray, .int .i64 E.me, .int .i64 E.sn] y fun e w' => e = .returned (.string (str (nameT E.f.id E.me E.sn))) ∧ Below y.heap.size y w' := fun y => Name_calls _ _ _ y HIL.out (by omega) (by omega) (by omega) (by omega)
  have cB : ∀ y, Calls Tryz.prog 104 #[.pointer none, .string (str (nameT E.f.id E.me E.sn)), .agg ((lookT 8 E.sn l).1.map bv).toArray] y fun e w' => e = .returned (.tuple #[]) ∧ Below y.heap.size y w' := fun y => NameNil_calls _ _ HKL.out y
  have hbn := Tryz.builtNote E
  have hsn : ¬ 256 ≤ E.sn := by omega
  have hml : s.length ≤ 1024 := hs
  have HSP : Hid ((protN E (lookT 8 E.sn l).1 s) = { (noteE E []) with s := sealT (lookT 8 E.sn l).1 (headN (noteE E [])) s }) := rfl
  clear hr hl hok hkey hp hn hm h hd0 hd1 hm0 hm1
  go_enter Tryz.func33, Tryz.ntmps33
  go_upto_region 1 with (fail)
  rw [← hN]
  obtain ⟨w0, hw0⟩ : ∃ z, z = w.alloc (.cells ZNL 86) := ⟨_, rfl⟩
  rw [← hw0] at hZ hbB HE0 HG0 ⊢
  clear hw0 hN hb0
  have hcs := HE0.out.sn
  go_wp2_with (refine wpList_load1 rfl 3 (.tmp 23) rfl eb 168 (by rfl) _ _ hcs Tryz.underlying3 rfl ?_)
  clear hcs
  obtain ⟨ag, hao, hcell⟩ := HE0.out.rowPtr HR.out
  have HAG : Hid (ag < N) := by show ag < N; exact HAGL.out ag hao
  have HAT : Hid (at_ < M.rs.length) := (List.getElem?_eq_some_iff.1 HR.out).1
  have hat : at_ < M.rs.length := HAT.out
  have hapc := HE0.out.apps
  rw [hao] at hapc
  have HAO := Lib.hid hao
  have hCE : CellsE N eb ag at_ (.slice (some ⟨ag, 0, none⟩) M.rs.length M.aac) (.pointer (some ⟨r, 0, none⟩)) (.int .i64 E.sn) w0 := ⟨HEL.out, HAG.out, by have := hZ.lt; omega, hapc, hcell, HE0.out.sn⟩
  clear hapc hcell hao
  go_cut [8, 9] from 27 to 43 (fun p q wx => ∃ kb, p = .pointer (some ⟨kb, 0, none⟩) ∧ q = .int .i64 0 ∧ Hid (Blk wx N zeroN.cells.toArray 86) ∧ Hid (Blk wx kb ((lookT 8 E.sn l).1.map bv).toArray 23) ∧ Hid (EraIs wx base eb M (E.took at_ (takeT 8 E.sn l))) ∧ Hid (Gr2 w r eb wx) ∧ N < kb)
  case first =>
    refine wp_region_held_drew (S := fun x => Blk x (N) zeroN.cells.toArray 86 ∧ CellsE N eb ag at_ (.slice (some ⟨ag, 0, none⟩) M.rs.length M.aac) (.pointer (some ⟨r, 0, none⟩)) (.int .i64 E.sn) x ∧ Gr2 w r eb x ∧ Below base w x) (by kernel_rfl) ⟨hZ.drew, hCE.below (below_drewN (Below.refl _ _) 1), HG0.out.below (below_drewN (Below.refl _ _) 1), below_drewN hbB 1⟩ (fun hSq1 => ?_)
    have hHq2 := Lib.hid (HE0.out.drew)
    refine wpAnyH_take (i := 0) (v := .pointer (some ⟨eb, 0, none⟩)) rfl (by kernel_rfl) (by kernel_rfl) (by kernel_rfl) (fun _ _ _ h => h) (Or.inl ⟨by rfl, fun x hx => by go_simp⟩) hSq1 ?_
    simp only [Act.put, List.getElem_toArray, List.getElem_cons_zero, List.getElem_cons_succ, List.setIfInBounds_toArray, List.set_cons_zero, List.set_cons_succ]
    refine wpAnyH_take (i := 1) (v := .pointer (some ⟨eb, 0, none⟩)) rfl (by kernel_rfl) (by kernel_rfl) (by kernel_rfl) (fun _ _ _ h => h) (Or.inl ⟨by rfl, fun x hx => by go_simp⟩) hSq1 ?_
    simp only [Act.put, List.getElem_toArray, List.getElem_cons_zero, List.getElem_cons_succ, List.setIfInBounds_toArray, List.set_cons_zero, List.set_cons_succ]
    refine wpAnyH_take (i := 2) (v := .pointer (some ⟨eb, 167, none⟩)) rfl (by kernel_rfl) (by kernel_rfl) (by kernel_rfl) (fun _ _ _ h => h) (Or.inl ⟨by rfl, fun x hx => by go_simp⟩) hSq1 ?_
    simp only [Act.put, List.getElem_toArray, List.getElem_cons_zero, List.getElem_cons_succ, List.setIfInBounds_toArray, List.set_cons_zero, List.set_cons_succ]
    refine wpAnyH_take (i := 3) (v := .slice (some ⟨ag, 0, none⟩) M.rs.length M.aac) rfl (by kernel_rfl) (by kernel_rfl) (by kernel_rfl) (fun _ _ _ h => h) (Or.inl ⟨by rfl, fun x hx => by have hc := hx.2.1.c1; go_simp⟩) hSq1 ?_
    simp only [Act.put, List.getElem_toArray, List.getElem_cons_zero, List.getElem_cons_succ, List.setIfInBounds_toArray, List.set_cons_zero, List.set_cons_succ]
    refine wpAnyH_take (i := 4) (v := .pointer (some ⟨eb, 0, none⟩)) rfl (by kernel_rfl) (by kernel_rfl) (by kernel_rfl) (fun _ _ _ h => h) (Or.inl ⟨by rfl, fun x hx => by go_simp⟩) hSq1 ?_
    simp only [Act.put, List.getElem_toArray, List.getElem_cons_zero, List.getElem_cons_succ, List.setIfInBounds_toArray, List.set_cons_zero, List.set_cons_succ]
    refine wpAnyH_take (i := 8) (v := .pointer none) rfl (by kernel_rfl) (by kernel_rfl) (by kernel_rfl) (fun _ _ _ h => h) (Or.inl ⟨by rfl, fun x hx => by go_simp⟩) hSq1 ?_
    simp only [Act.put, List.getElem_toArray, List.getElem_cons_zero, List.getElem_cons_succ, List.setIfInBounds_toArray, List.set_cons_zero, List.set_cons_succ]
    refine wpAnyH_take (i := 9) (v := .pointer (some ⟨eb, 0, none⟩)) rfl (by kernel_rfl) (by kernel_rfl) (by kernel_rfl) (fun _ _ _ h => h) (Or.inl ⟨by rfl, fun x hx => by go_simp⟩) hSq1 ?_
    simp only [Act.put, List.getElem_toArray, List.getElem_cons_zero, List.getElem_cons_succ, List.setIfInBounds_toArray, List.set_cons_zero, List.set_cons_succ]
    refine wpAnyH_take (i := 10) (v := .pointer (some ⟨eb, 0, none⟩)) rfl (by kernel_rfl) (by kernel_rfl) (by kernel_rfl) (fun _ _ _ h => h) (Or.inl ⟨by rfl, fun x hx => by go_simp⟩) hSq1 ?_
    simp only [Act.put, List.getElem_toArray, List.getElem_cons_zero, List.getElem_cons_succ, List.setIfInBounds_toArray, List.set_cons_zero, List.set_cons_succ]
    refine wpAnyH_take (i := 11) (v := .pointer (some ⟨eb, 168, none⟩)) rfl (by kernel_rfl) (by kernel_rfl) (by kernel_rfl) (fun _ _ _ h => h) (Or.inl ⟨by rfl, fun x hx => by go_simp⟩) hSq1 ?_
    simp only [Act.put, List.getElem_toArray, List.getElem_cons_zero, List.getElem_cons_succ, List.setIfInBounds_toArray, List.set_cons_zero, List.set_cons_succ]
    refine wpAnyH_take (i := 12) (v := .int .i64 E.sn) rfl (by kernel_rfl) (by kernel_rfl) (by kernel_rfl) (fun _ _ _ h => h) (Or.inl ⟨by rfl, fun x hx => by have hc := hx.2.1.c3; go_simp⟩) hSq1 ?_
    simp only [Act.put, List.getElem_toArray, List.getElem_cons_zero, List.getElem_cons_succ, List.setIfInBounds_toArray, List.set_cons_zero, List.set_cons_succ]
    refine wpAnyH_ready (rs := [5, 17]) (by kernel_rfl) (by simp) ?_
    refine AllReadyH.cons rfl (fun K hK => ?_) ?_
    · go_simp
      go_wp2_with (go_at_call 23; refine (cP _ hHq2.out).mono ?_; rintro e yq3 ⟨rfl, bq4⟩)
      have hHq5 := Lib.hid (hHq2.out.below bq4)
      refine hK.out _ _ ⟨hSq1.1.below bq4 hSq1.1.lt, hSq1.2.1.below bq4, hSq1.2.2.1.below bq4, hSq1.2.2.2.trans (bq4.mono (Nat.le_trans HBN.out hSq1.2.2.2.size))⟩ (fun hSq6 => ?_)
      clear hK K hSq1 bq4
      refine wpAnyH_take (i := 6) (v := .pointer (some ⟨ag, at_, none⟩)) rfl (by kernel_rfl) (by kernel_rfl) (by kernel_rfl) (fun _ _ _ h => h) (Or.inl ⟨by rfl, fun x hx => by go_simp⟩) hSq6 ?_
      simp only [Act.put, List.getElem_toArray, List.getElem_cons_zero, List.getElem_cons_succ, List.setIfInBounds_toArray, List.set_cons_zero, List.set_cons_succ]
      refine wpAnyH_take (i := 7) (v := .pointer (some ⟨r, 0, none⟩)) rfl (by kernel_rfl) (by kernel_rfl) (by kernel_rfl) (fun _ _ _ h => h) (Or.inl ⟨by rfl, fun x hx => by have hc := hx.2.1.c2; go_simp⟩) hSq6 ?_
      simp only [Act.put, List.getElem_toArray, List.getElem_cons_zero, List.getElem_cons_succ, List.setIfInBounds_toArray, List.set_cons_zero, List.set_cons_succ]
      refine wpAnyH_ready (rs := [13, 17]) (by kernel_rfl) (by simp) ?_
      refine AllReadyH.cons rfl (fun K hK => ?_) ?_
      · go_simp
        go_wp2_with (go_at_call 21; refine (cT _ hHq5.out).mono ?_; rintro e yq7 ⟨rfl, hTq8⟩)
        have gq9 := hTq8.out.2.1
        obtain ⟨_, hrv⟩ := hTq8.out.2.2.slot
        have hHq11 := Lib.hid hTq8.out.1
        have hcl2 := hHq11.out.apps
        rw [HAO.out] at hcl2
        obtain ⟨ag2, e2, hpt2⟩ := hHq11.out.rowPtr HR.out
        rw [HAO.out] at e2
        cases e2
        refine hK.out _ _ ⟨hSq6.1.grown gq9 (fun e => blk_ne hSq6.1 hrv (by decide) (Option.some.inj e)), ⟨hSq6.2.1.he, hSq6.2.1.ha, Nat.le_trans hSq6.2.1.hn gq9.size, hcl2, hpt2, hHq11.out.sn⟩, hSq6.2.2.1.step gq9 (fun q e => by cases e; exact .inl rfl), hSq6.2.2.2.grown gq9 (Nat.le_trans HBN.out hSq6.2.2.2.size) (fun q e => by cases e; exact hbr)⟩ (fun hSq10 => ?_)
        clear hK K hSq6 hHq5 hTq8 gq9 hrv hcl2 hpt2
        refine wpAnyH_take (i := 14) (v := .tuple #[.agg ((lookT 8 E.sn l).1.map bv).toArray, .int .i64 0]) rfl (by kernel_rfl) (by kernel_rfl) (by kernel_rfl) (fun _ _ _ h => h) (Or.inl ⟨by rfl, fun x hx => by go_simp⟩) hSq10 ?_
        simp only [Act.put, List.getElem_toArray, List.getElem_cons_zero, List.getElem_cons_succ, List.setIfInBounds_toArray, List.set_cons_zero, List.set_cons_succ]
        refine wpAnyH_take (i := 15) (v := .agg ((lookT 8 E.sn l).1.map bv).toArray) rfl (by kernel_rfl) (by kernel_rfl) (by kernel_rfl) (fun _ _ _ h => h) (Or.inl ⟨by rfl, fun x hx => by go_simp⟩) hSq10 ?_
        simp only [Act.put, List.getElem_toArray, List.getElem_cons_zero, List.getElem_cons_succ, List.setIfInBounds_toArray, List.set_cons_zero, List.set_cons_succ]
        refine wpAnyH_take (i := 16) (v := .int .i64 0) rfl (by kernel_rfl) (by kernel_rfl) (by kernel_rfl) (fun _ _ _ h => h) (Or.inl ⟨by rfl, fun x hx => by go_simp⟩) hSq10 ?_
        simp only [Act.put, List.getElem_toArray, List.getElem_cons_zero, List.getElem_cons_succ, List.setIfInBounds_toArray, List.set_cons_zero, List.set_cons_succ]
        refine wpAnyH_ready (rs := [17]) (by kernel_rfl) (by simp) ?_
        refine AllReadyH.cons rfl (fun K hK => ?_) AllReadyH.nil
        rw [if_pos (by rfl)]
        refine wp_allocZ 23 rfl _ Tryz.zeroHash ?_
        intro gq15 yq13 egq16 ezq17 bq12 hEq14
        have lgq18 : base ≤ gq15 := by rw [egq16]; exact Nat.le_trans HBN.out hSq10.2.2.2.size
        have lbq19 : N < gq15 := by rw [egq16]; exact hSq10.1.lt
        have hHq20 := Lib.hid (hHq11.out.below bq12)
        refine hK.out _ _ ⟨hSq10.1.below bq12 hSq10.1.lt, hSq10.2.1.below bq12, hSq10.2.2.1.below bq12, hSq10.2.2.2.trans (bq12.mono (Nat.le_trans HBN.out hSq10.2.2.2.size))⟩ (fun hSq21 => ?_)
        clear hK K hSq10 bq12 egq16 ezq17
        refine wpAnyH_ready (rs := [18]) (by kernel_rfl) (by simp) ?_
        refine AllReadyH.cons rfl (fun K hK => ?_) AllReadyH.nil
        rw [if_pos (by rfl)]
        have hNk : N ≤ gq15 := by omega
        refine wp_storeBlk 23 (.tmp 8) (.tmp 42) rfl gq15 ((lookT 8 E.sn l).1.map bv).toArray (by rfl) (by rfl) _ _ hEq14 (by rw [bv_size, HKL.out]; exact Tryz.sizeHash) (by rw [bv_size, HKL.out, Z32_size]) (bv_all _) ?_
        intro yq22 hEq23 grq24
        have hHq26 := Lib.hid (hHq20.out.other2 grq24 hEq14 z32_0 (by decide) (by decide) (by decide) (by decide) (by decide) (by decide))
        refine hK.out _ _ ⟨hSq21.1.grown grq24 (fun e => by have := Option.some.inj e; omega), hSq21.2.1.kept grq24 hNk, hSq21.2.2.1.new grq24 (by rw [← HN.out]; exact hNk), hSq21.2.2.2.grown grq24 (Nat.le_trans HBN.out hSq21.2.2.2.size) (fun q e => by cases e; exact lgq18)⟩ (fun hSq25 => ?_)
        clear hK K hSq21 hNk
        refine wpAnyH_ready (rs := [19]) (by kernel_rfl) (by simp) ?_
        refine AllReadyH.cons rfl (fun K hK => ?_) AllReadyH.nil
        go_simp
        refine hK.out _ _ hSq25 (fun hSq27 => ?_)
        clear hK K hSq25
        refine wpAnyH_done (by kernel_rfl) ?_ _
        have hNkb : N < gq15 := by omega
        go_wp2_with fail
        go_meet
        exact ⟨gq15, rfl, rfl, hSq27.1, hEq23, hHq26.out, hSq27.2.2.1, hNkb⟩
      refine AllReadyH.cons rfl (fun K hK => ?_) AllReadyH.nil
      rw [if_pos (by rfl)]
      refine wp_allocZ 23 rfl _ Tryz.zeroHash ?_
      intro gq31 yq29 egq32 ezq33 bq28 hEq30
      have lgq34 : base ≤ gq31 := by rw [egq32]; exact Nat.le_trans HBN.out hSq6.2.2.2.size
      have lbq35 : N < gq31 := by rw [egq32]; exact hSq6.1.lt
      have hHq36 := Lib.hid (hHq5.out.below bq28)
      refine hK.out _ _ ⟨hSq6.1.below bq28 hSq6.1.lt, hSq6.2.1.below bq28, hSq6.2.2.1.below bq28, hSq6.2.2.2.trans (bq28.mono (Nat.le_trans HBN.out hSq6.2.2.2.size))⟩ (fun hSq37 => ?_)
      clear hK K hSq6 bq28 egq32 ezq33
      refine wpAnyH_ready (rs := [13]) (by kernel_rfl) (by simp) ?_
      refine AllReadyH.cons rfl (fun K hK => ?_) AllReadyH.nil
      go_simp
      go_wp2_with (go_at_call 21; refine (cT _ hHq36.out).mono ?_; rintro e yq38 ⟨rfl, hTq39⟩)
      have gq40 := hTq39.out.2.1
      obtain ⟨_, hrv⟩ := hTq39.out.2.2.slot
      have hEq42 := hEq30.grown gq40 (fun e => blk_ne hEq30 hrv (by decide) (Option.some.inj e))
      have hHq43 := Lib.hid hTq39.out.1
      have hcl2 := hHq43.out.apps
      rw [HAO.out] at hcl2
      obtain ⟨ag2, e2, hpt2⟩ := hHq43.out.rowPtr HR.out
      rw [HAO.out] at e2
      cases e2
      refine hK.out _ _ ⟨hSq37.1.grown gq40 (fun e => blk_ne hSq37.1 hrv (by decide) (Option.some.inj e)), ⟨hSq37.2.1.he, hSq37.2.1.ha, Nat.le_trans hSq37.2.1.hn gq40.size, hcl2, hpt2, hHq43.out.sn⟩, hSq37.2.2.1.step gq40 (fun q e => by cases e; exact .inl rfl), hSq37.2.2.2.grown gq40 (Nat.le_trans HBN.out hSq37.2.2.2.size) (fun q e => by cases e; exact hbr)⟩ (fun hSq41 => ?_)
      clear hK K hSq37 hHq36 hTq39 gq40 hrv hcl2 hpt2
      refine wpAnyH_take (i := 14) (v := .tuple #[.agg ((lookT 8 E.sn l).1.map bv).toArray, .int .i64 0]) rfl (by kernel_rfl) (by kernel_rfl) (by kernel_rfl) (fun _ _ _ h => h) (Or.inl ⟨by rfl, fun x hx => by go_simp⟩) hSq41 ?_
      simp only [Act.put, List.getElem_toArray, List.getElem_cons_zero, List.getElem_cons_succ, List.setIfInBounds_toArray, List.set_cons_zero, List.set_cons_succ]
      refine wpAnyH_take (i := 15) (v := .agg ((lookT 8 E.sn l).1.map bv).toArray) rfl (by kernel_rfl) (by kernel_rfl) (by kernel_rfl) (fun _ _ _ h => h) (Or.inl ⟨by rfl, fun x hx => by go_simp⟩) hSq41 ?_
      simp only [Act.put, List.getElem_toArray, List.getElem_cons_zero, List.getElem_cons_succ, List.setIfInBounds_toArray, List.set_cons_zero, List.set_cons_succ]
      refine wpAnyH_take (i := 16) (v := .int .i64 0) rfl (by kernel_rfl) (by kernel_rfl) (by kernel_rfl) (fun _ _ _ h => h) (Or.inl ⟨by rfl, fun x hx => by go_simp⟩) hSq41 ?_
      simp only [Act.put, List.getElem_toArray, List.getElem_cons_zero, List.getElem_cons_succ, List.setIfInBounds_toArray, List.set_cons_zero, List.set_cons_succ]
      refine wpAnyH_ready (rs := [18]) (by kernel_rfl) (by simp) ?_
      refine AllReadyH.cons rfl (fun K hK => ?_) AllReadyH.nil
      rw [if_pos (by rfl)]
      have hNk : N ≤ gq31 := by omega
      refine wp_storeBlk 23 (.tmp 8) (.tmp 42) rfl gq31 ((lookT 8 E.sn l).1.map bv).toArray (by rfl) (by rfl) _ _ hEq42 (by rw [bv_size, HKL.out]; exact Tryz.sizeHash) (by rw [bv_size, HKL.out, Z32_size]) (bv_all _) ?_
      intro yq44 hEq45 grq46
      have hHq48 := Lib.hid (hHq43.out.other2 grq46 hEq42 z32_0 (by decide) (by decide) (by decide) (by decide) (by decide) (by decide))
      refine hK.out _ _ ⟨hSq41.1.grown grq46 (fun e => by have := Option.some.inj e; omega), hSq41.2.1.kept grq46 hNk, hSq41.2.2.1.new grq46 (by rw [← HN.out]; exact hNk), hSq41.2.2.2.grown grq46 (Nat.le_trans HBN.out hSq41.2.2.2.size) (fun q e => by cases e; exact lgq34)⟩ (fun hSq47 => ?_)
      clear hK K hSq41 hNk
      refine wpAnyH_ready (rs := [19]) (by kernel_rfl) (by simp) ?_
      refine AllReadyH.cons rfl (fun K hK => ?_) AllReadyH.nil
      go_simp
      refine hK.out _ _ hSq47 (fun hSq49 => ?_)
      clear hK K hSq47
      refine wpAnyH_done (by kernel_rfl) ?_ _
      have hNkb : N < gq31 := by omega
      go_wp2_with fail
      go_meet
      exact ⟨gq31, rfl, rfl, hSq49.1, hEq45, hHq48.out, hSq49.2.2.1, hNkb⟩
    refine AllReadyH.cons rfl (fun K hK => ?_) AllReadyH.nil
    rw [if_pos (by rfl)]
    refine wp_allocZ 23 rfl _ Tryz.zeroHash ?_
    intro gq53 yq51 egq54 ezq55 bq50 hEq52
    have lgq56 : base ≤ gq53 := by rw [egq54]; exact Nat.le_trans HBN.out hSq1.2.2.2.size
    have lbq57 : N < gq53 := by rw [egq54]; exact hSq1.1.lt
    have hHq58 := Lib.hid (hHq2.out.below bq50)
    refine hK.out _ _ ⟨hSq1.1.below bq50 hSq1.1.lt, hSq1.2.1.below bq50, hSq1.2.2.1.below bq50, hSq1.2.2.2.trans (bq50.mono (Nat.le_trans HBN.out hSq1.2.2.2.size))⟩ (fun hSq59 => ?_)
    clear hK K hSq1 bq50 egq54 ezq55
    refine wpAnyH_ready (rs := [5]) (by kernel_rfl) (by simp) ?_
    refine AllReadyH.cons rfl (fun K hK => ?_) AllReadyH.nil
    go_simp
    go_wp2_with (go_at_call 23; refine (cP _ hHq58.out).mono ?_; rintro e yq60 ⟨rfl, bq61⟩)
    have hEq62 := hEq52.below bq61 hEq52.lt
    have hHq63 := Lib.hid (hHq58.out.below bq61)
    refine hK.out _ _ ⟨hSq59.1.below bq61 hSq59.1.lt, hSq59.2.1.below bq61, hSq59.2.2.1.below bq61, hSq59.2.2.2.trans (bq61.mono (Nat.le_trans HBN.out hSq59.2.2.2.size))⟩ (fun hSq64 => ?_)
    clear hK K hSq59 bq61
    refine wpAnyH_take (i := 6) (v := .pointer (some ⟨ag, at_, none⟩)) rfl (by kernel_rfl) (by kernel_rfl) (by kernel_rfl) (fun _ _ _ h => h) (Or.inl ⟨by rfl, fun x hx => by go_simp⟩) hSq64 ?_
    simp only [Act.put, List.getElem_toArray, List.getElem_cons_zero, List.getElem_cons_succ, List.setIfInBounds_toArray, List.set_cons_zero, List.set_cons_succ]
    refine wpAnyH_take (i := 7) (v := .pointer (some ⟨r, 0, none⟩)) rfl (by kernel_rfl) (by kernel_rfl) (by kernel_rfl) (fun _ _ _ h => h) (Or.inl ⟨by rfl, fun x hx => by have hc := hx.2.1.c2; go_simp⟩) hSq64 ?_
    simp only [Act.put, List.getElem_toArray, List.getElem_cons_zero, List.getElem_cons_succ, List.setIfInBounds_toArray, List.set_cons_zero, List.set_cons_succ]
    refine wpAnyH_ready (rs := [13]) (by kernel_rfl) (by simp) ?_
    refine AllReadyH.cons rfl (fun K hK => ?_) AllReadyH.nil
    go_simp
    go_wp2_with (go_at_call 21; refine (cT _ hHq63.out).mono ?_; rintro e yq65 ⟨rfl, hTq66⟩)
    have gq67 := hTq66.out.2.1
    obtain ⟨_, hrv⟩ := hTq66.out.2.2.slot
    have hEq69 := hEq62.grown gq67 (fun e => blk_ne hEq62 hrv (by decide) (Option.some.inj e))
    have hHq70 := Lib.hid hTq66.out.1
    have hcl2 := hHq70.out.apps
    rw [HAO.out] at hcl2
    obtain ⟨ag2, e2, hpt2⟩ := hHq70.out.rowPtr HR.out
    rw [HAO.out] at e2
    cases e2
    refine hK.out _ _ ⟨hSq64.1.grown gq67 (fun e => blk_ne hSq64.1 hrv (by decide) (Option.some.inj e)), ⟨hSq64.2.1.he, hSq64.2.1.ha, Nat.le_trans hSq64.2.1.hn gq67.size, hcl2, hpt2, hHq70.out.sn⟩, hSq64.2.2.1.step gq67 (fun q e => by cases e; exact .inl rfl), hSq64.2.2.2.grown gq67 (Nat.le_trans HBN.out hSq64.2.2.2.size) (fun q e => by cases e; exact hbr)⟩ (fun hSq68 => ?_)
    clear hK K hSq64 hHq63 hTq66 gq67 hrv hcl2 hpt2
    refine wpAnyH_take (i := 14) (v := .tuple #[.agg ((lookT 8 E.sn l).1.map bv).toArray, .int .i64 0]) rfl (by kernel_rfl) (by kernel_rfl) (by kernel_rfl) (fun _ _ _ h => h) (Or.inl ⟨by rfl, fun x hx => by go_simp⟩) hSq68 ?_
    simp only [Act.put, List.getElem_toArray, List.getElem_cons_zero, List.getElem_cons_succ, List.setIfInBounds_toArray, List.set_cons_zero, List.set_cons_succ]
    refine wpAnyH_take (i := 15) (v := .agg ((lookT 8 E.sn l).1.map bv).toArray) rfl (by kernel_rfl) (by kernel_rfl) (by kernel_rfl) (fun _ _ _ h => h) (Or.inl ⟨by rfl, fun x hx => by go_simp⟩) hSq68 ?_
    simp only [Act.put, List.getElem_toArray, List.getElem_cons_zero, List.getElem_cons_succ, List.setIfInBounds_toArray, List.set_cons_zero, List.set_cons_succ]
    refine wpAnyH_take (i := 16) (v := .int .i64 0) rfl (by kernel_rfl) (by kernel_rfl) (by kernel_rfl) (fun _ _ _ h => h) (Or.inl ⟨by rfl, fun x hx => by go_simp⟩) hSq68 ?_
    simp only [Act.put, List.getElem_toArray, List.getElem_cons_zero, List.getElem_cons_succ, List.setIfInBounds_toArray, List.set_cons_zero, List.set_cons_succ]
    refine wpAnyH_ready (rs := [18]) (by kernel_rfl) (by simp) ?_
    refine AllReadyH.cons rfl (fun K hK => ?_) AllReadyH.nil
    rw [if_pos (by rfl)]
    have hNk : N ≤ gq53 := by omega
    refine wp_storeBlk 23 (.tmp 8) (.tmp 42) rfl gq53 ((lookT 8 E.sn l).1.map bv).toArray (by rfl) (by rfl) _ _ hEq69 (by rw [bv_size, HKL.out]; exact Tryz.sizeHash) (by rw [bv_size, HKL.out, Z32_size]) (bv_all _) ?_
    intro yq71 hEq72 grq73
    have hHq75 := Lib.hid (hHq70.out.other2 grq73 hEq69 z32_0 (by decide) (by decide) (by decide) (by decide) (by decide) (by decide))
    refine hK.out _ _ ⟨hSq68.1.grown grq73 (fun e => by have := Option.some.inj e; omega), hSq68.2.1.kept grq73 hNk, hSq68.2.2.1.new grq73 (by rw [← HN.out]; exact hNk), hSq68.2.2.2.grown grq73 (Nat.le_trans HBN.out hSq68.2.2.2.size) (fun q e => by cases e; exact lgq56)⟩ (fun hSq74 => ?_)
    clear hK K hSq68 hNk
    refine wpAnyH_ready (rs := [19]) (by kernel_rfl) (by simp) ?_
    refine AllReadyH.cons rfl (fun K hK => ?_) AllReadyH.nil
    go_simp
    refine hK.out _ _ hSq74 (fun hSq76 => ?_)
    clear hK K hSq74
    refine wpAnyH_done (by kernel_rfl) ?_ _
    have hNkb : N < gq53 := by omega
    go_wp2_with fail
    go_meet
    exact ⟨gq53, rfl, rfl, hSq76.1, hEq72, hHq75.out, hSq76.2.2.1, hNkb⟩
  case rest =>
    obtain ⟨kb, rfl, rfl, hZ7, hK7, hE7, hG7, hNk⟩ := hcut
    have hB7 := hG7.out.low hbr hbe HBN.out
    have hz7 := hZ7.out
    have hk7 := hK7.out
    have he7 := hE7.out
    have hg7 := hG7.out
    clear hZ hbB hCE hZ7 hK7 hE7 hG7
    go_wp2_with fail
    refine wp_region_held_drew (S := fun x => Blk x (N) zeroN.cells.toArray 86 ∧ Blk x (kb) ((lookT 8 E.sn l).1.map bv).toArray 23 ∧ EraIs x base eb M (E.took at_ (takeT 8 E.sn l)) ∧ Gr2 w r eb x ∧ Below base w x) (by kernel_rfl) ⟨hz7.drew, hk7.drew, he7.below (below_drewN (Below.refl _ _) 1), hg7.below (below_drewN (Below.refl _ _) 1), below_drewN hB7 1⟩ (fun hSq77 => ?_)
    refine wpAnyH_take (i := 0) (v := .pointer (some ⟨eb, 0, none⟩)) rfl (by kernel_rfl) (by kernel_rfl) (by kernel_rfl) (fun _ _ _ h => h) (Or.inl ⟨by rfl, fun x hx => by go_simp⟩) hSq77 ?_
    simp only [Act.put, List.getElem_toArray, List.getElem_cons_zero, List.getElem_cons_succ, List.setIfInBounds_toArray, List.set_cons_zero, List.set_cons_succ]
    refine wpAnyH_take (i := 1) (v := .pointer (some ⟨eb, 0, none⟩)) rfl (by kernel_rfl) (by kernel_rfl) (by kernel_rfl) (fun _ _ _ h => h) (Or.inl ⟨by rfl, fun x hx => by go_simp⟩) hSq77 ?_
    simp only [Act.put, List.getElem_toArray, List.getElem_cons_zero, List.getElem_cons_succ, List.setIfInBounds_toArray, List.set_cons_zero, List.set_cons_succ]
    refine wpAnyH_take (i := 2) (v := .pointer (some ⟨eb, 0, none⟩)) rfl (by kernel_rfl) (by kernel_rfl) (by kernel_rfl) (fun _ _ _ h => h) (Or.inl ⟨by rfl, fun x hx => by go_simp⟩) hSq77 ?_
    simp only [Act.put, List.getElem_toArray, List.getElem_cons_zero, List.getElem_cons_succ, List.setIfInBounds_toArray, List.set_cons_zero, List.set_cons_succ]
    refine wpAnyH_take (i := 3) (v := .pointer (some ⟨eb, 0, none⟩)) rfl (by kernel_rfl) (by kernel_rfl) (by kernel_rfl) (fun _ _ _ h => h) (Or.inl ⟨by rfl, fun x hx => by go_simp⟩) hSq77 ?_
    simp only [Act.put, List.getElem_toArray, List.getElem_cons_zero, List.getElem_cons_succ, List.setIfInBounds_toArray, List.set_cons_zero, List.set_cons_succ]
    refine wpAnyH_take (i := 4) rfl (by kernel_rfl) (by kernel_rfl) (by kernel_rfl) (fun _ _ _ h => h) (yieldsIf_load_mid (by rfl) 23 (.tmp 51) rfl (eb) (0) (by rfl) ((E.f.id.map bv)) _ (fun x hx => hx.2.2.1.id) Tryz.underlying23 rfl (by rw [List.length_map, HIL.out]; exact Tryz.sizeHash)) hSq77 ?_
    simp only [Act.put, List.getElem_toArray, List.getElem_cons_zero, List.getElem_cons_succ, List.setIfInBounds_toArray, List.set_cons_zero, List.set_cons_succ]
    refine wpAnyH_take (i := 5) (v := .pointer (some ⟨eb, 0, none⟩)) rfl (by kernel_rfl) (by kernel_rfl) (by kernel_rfl) (fun _ _ _ h => h) (Or.inl ⟨by rfl, fun x hx => by go_simp⟩) hSq77 ?_
    simp only [Act.put, List.getElem_toArray, List.getElem_cons_zero, List.getElem_cons_succ, List.setIfInBounds_toArray, List.set_cons_zero, List.set_cons_succ]
    refine wpAnyH_take (i := 6) (v := .pointer (some ⟨eb, 0, none⟩)) rfl (by kernel_rfl) (by kernel_rfl) (by kernel_rfl) (fun _ _ _ h => h) (Or.inl ⟨by rfl, fun x hx => by go_simp⟩) hSq77 ?_
    simp only [Act.put, List.getElem_toArray, List.getElem_cons_zero, List.getElem_cons_succ, List.setIfInBounds_toArray, List.set_cons_zero, List.set_cons_succ]
    refine wpAnyH_take (i := 7) (v := .pointer (some ⟨eb, 0, none⟩)) rfl (by kernel_rfl) (by kernel_rfl) (by kernel_rfl) (fun _ _ _ h => h) (Or.inl ⟨by rfl, fun x hx => by go_simp⟩) hSq77 ?_
    simp only [Act.put, List.getElem_toArray, List.getElem_cons_zero, List.getElem_cons_succ, List.setIfInBounds_toArray, List.set_cons_zero, List.set_cons_succ]
    refine wpAnyH_take (i := 8) (v := .pointer (some ⟨eb, 64, none⟩)) rfl (by kernel_rfl) (by kernel_rfl) (by kernel_rfl) (fun _ _ _ h => h) (Or.inl ⟨by rfl, fun x hx => by go_simp⟩) hSq77 ?_
    simp only [Act.put, List.getElem_toArray, List.getElem_cons_zero, List.getElem_cons_succ, List.setIfInBounds_toArray, List.set_cons_zero, List.set_cons_succ]
    refine wpAnyH_take (i := 9) (v := .int .i64 E.f.dep) rfl (by kernel_rfl) (by kernel_rfl) (by kernel_rfl) (fun _ _ _ h => h) (Or.inl ⟨by rfl, fun x hx => by have hc := hx.2.2.1.dep; go_simp <;> rfl⟩) hSq77 ?_
    simp only [Act.put, List.getElem_toArray, List.getElem_cons_zero, List.getElem_cons_succ, List.setIfInBounds_toArray, List.set_cons_zero, List.set_cons_succ]
    refine wpAnyH_take (i := 10) (v := .pointer (some ⟨eb, 0, none⟩)) rfl (by kernel_rfl) (by kernel_rfl) (by kernel_rfl) (fun _ _ _ h => h) (Or.inl ⟨by rfl, fun x hx => by go_simp⟩) hSq77 ?_
    simp only [Act.put, List.getElem_toArray, List.getElem_cons_zero, List.getElem_cons_succ, List.setIfInBounds_toArray, List.set_cons_zero, List.set_cons_succ]
    refine wpAnyH_take (i := 11) (v := .pointer (some ⟨eb, 0, none⟩)) rfl (by kernel_rfl) (by kernel_rfl) (by kernel_rfl) (fun _ _ _ h => h) (Or.inl ⟨by rfl, fun x hx => by go_simp⟩) hSq77 ?_
    simp only [Act.put, List.getElem_toArray, List.getElem_cons_zero, List.getElem_cons_succ, List.setIfInBounds_toArray, List.set_cons_zero, List.set_cons_succ]
    refine wpAnyH_take (i := 12) (v := .pointer (some ⟨eb, 163, none⟩)) rfl (by kernel_rfl) (by kernel_rfl) (by kernel_rfl) (fun _ _ _ h => h) (Or.inl ⟨by rfl, fun x hx => by go_simp⟩) hSq77 ?_
    simp only [Act.put, List.getElem_toArray, List.getElem_cons_zero, List.getElem_cons_succ, List.setIfInBounds_toArray, List.set_cons_zero, List.set_cons_succ]
    refine wpAnyH_take (i := 13) (v := .int .i64 E.me) rfl (by kernel_rfl) (by kernel_rfl) (by kernel_rfl) (fun _ _ _ h => h) (Or.inl ⟨by rfl, fun x hx => by have hc := hx.2.2.1.me; go_simp <;> rfl⟩) hSq77 ?_
    simp only [Act.put, List.getElem_toArray, List.getElem_cons_zero, List.getElem_cons_succ, List.setIfInBounds_toArray, List.set_cons_zero, List.set_cons_succ]
    refine wpAnyH_take (i := 14) (v := .pointer (some ⟨eb, 0, none⟩)) rfl (by kernel_rfl) (by kernel_rfl) (by kernel_rfl) (fun _ _ _ h => h) (Or.inl ⟨by rfl, fun x hx => by go_simp⟩) hSq77 ?_
    simp only [Act.put, List.getElem_toArray, List.getElem_cons_zero, List.getElem_cons_succ, List.setIfInBounds_toArray, List.set_cons_zero, List.set_cons_succ]
    refine wpAnyH_take (i := 15) (v := .pointer (some ⟨eb, 0, none⟩)) rfl (by kernel_rfl) (by kernel_rfl) (by kernel_rfl) (fun _ _ _ h => h) (Or.inl ⟨by rfl, fun x hx => by go_simp⟩) hSq77 ?_
    simp only [Act.put, List.getElem_toArray, List.getElem_cons_zero, List.getElem_cons_succ, List.setIfInBounds_toArray, List.set_cons_zero, List.set_cons_succ]
    refine wpAnyH_take (i := 16) (v := .pointer (some ⟨eb, 168, none⟩)) rfl (by kernel_rfl) (by kernel_rfl) (by kernel_rfl) (fun _ _ _ h => h) (Or.inl ⟨by rfl, fun x hx => by go_simp⟩) hSq77 ?_
    simp only [Act.put, List.getElem_toArray, List.getElem_cons_zero, List.getElem_cons_succ, List.setIfInBounds_toArray, List.set_cons_zero, List.set_cons_succ]
    refine wpAnyH_take (i := 17) (v := .int .i64 E.sn) rfl (by kernel_rfl) (by kernel_rfl) (by kernel_rfl) (fun _ _ _ h => h) (Or.inl ⟨by rfl, fun x hx => by have hc := hx.2.2.1.sn; go_simp <;> rfl⟩) hSq77 ?_
    simp only [Act.put, List.getElem_toArray, List.getElem_cons_zero, List.getElem_cons_succ, List.setIfInBounds_toArray, List.set_cons_zero, List.set_cons_succ]
    refine wpAnyH_take (i := 18) rfl (by kernel_rfl) (by kernel_rfl) (by kernel_rfl) (fun _ _ _ h => h) (yieldsIf_build (by rfl) 86 #[(0, .tmp 52), (1, .tmp 57), (2, .tmp 61), (3, .tmp 65)] rfl (noteE E []).cells.toArray hbn) hSq77 ?_
    simp only [Act.put, List.getElem_toArray, List.getElem_cons_zero, List.getElem_cons_succ, List.setIfInBounds_toArray, List.set_cons_zero, List.set_cons_succ]
    refine wpAnyH_ready (rs := [19]) (by kernel_rfl) (by simp) ?_
    refine AllReadyH.cons rfl (fun K hK => ?_) AllReadyH.nil
    rw [if_pos (by rfl)]
    refine wp_allocZ 86 rfl _ Tryz.zeroNote ?_
    intro gq81 yq79 egq82 ezq83 bq78 hEq80
    have lgq84 : base ≤ gq81 := by rw [egq82]; exact Nat.le_trans HBN.out hSq77.2.2.2.2.size
    have lbq85 : N < gq81 := by rw [egq82]; exact hSq77.1.lt
    have lbq86 : kb < gq81 := by rw [egq82]; exact hSq77.2.1.lt
    refine hK.out _ _ ⟨hSq77.1.below bq78 hSq77.1.lt, hSq77.2.1.below bq78 hSq77.2.1.lt, hSq77.2.2.1.below bq78, hSq77.2.2.2.1.below bq78, hSq77.2.2.2.2.trans (bq78.mono (Nat.le_trans HBN.out hSq77.2.2.2.2.size))⟩ (fun hSq87 => ?_)
    clear hK K hSq77 bq78 egq82 ezq83
    refine wpAnyH_ready (rs := [20]) (by kernel_rfl) (by simp) ?_
    refine AllReadyH.cons rfl (fun K hK => ?_) AllReadyH.nil
    rw [if_pos (by rfl)]
    have hNk : N ≤ gq81 := by omega
    refine wp_storeBlk 86 (.tmp 10) (.tmp 66) rfl gq81 (noteE E []).cells.toArray (by rfl) (by rfl) _ _ hEq80 (by rw [List.size_toArray, NoteA.cells_len]; exact Tryz.sizeNote) (by rw [List.size_toArray, List.size_toArray, NoteA.cells_len, NoteA.cells_len]) (note_all _) ?_
    intro yq88 hEq89 grq90
    refine hK.out _ _ ⟨hSq87.1.grown grq90 (fun e => by have := Option.some.inj e; omega), hSq87.2.1.grown grq90 (fun e => by have := Option.some.inj e; omega), hSq87.2.2.1.other2 grq90 hEq80 zn_0 (by decide) (by decide) (by decide) (by decide) (by decide) (by decide), hSq87.2.2.2.1.new grq90 (by rw [← HN.out]; exact hNk), hSq87.2.2.2.2.grown grq90 (Nat.le_trans HBN.out hSq87.2.2.2.2.size) (fun q e => by cases e; exact lgq84)⟩ (fun hSq91 => ?_)
    clear hK K hSq87 hNk
    refine wpAnyH_done (by kernel_rfl) ?_ _
    obtain ⟨nb, hnb⟩ : ∃ z, z = gq81 := ⟨_, rfl⟩
    have hNn : N < nb ∧ kb < nb := by rw [hnb]; exact ⟨by omega, by omega⟩
    have hn8 := hEq89
    rw [← hnb] at hn8 ⊢
    have hz8 := hSq91.1
    have hk8 := hSq91.2.1
    have he8 := hSq91.2.2.1
    have hg8 := hSq91.2.2.2.1
    have hb8 := hSq91.2.2.2.2
    have hcs := he8.sn
    obtain ⟨w8, hw8⟩ : ∃ z, z = yq88 := ⟨_, rfl⟩
    rw [← hw8] at hn8 hz8 hk8 he8 hg8 hb8 hcs ⊢
    clear hSq91 hEq89 hnb hw8
    have HW1 : Hid (wrap64 (E.sn + 1) = E.sn + 1) := wrap_add1 _ HSN.out.1 HSN.out.2
    go_wp2_with (first | (refine wpList_load1 rfl 3 (.tmp 69) rfl eb 168 (by rfl) _ _ hcs Tryz.underlying3 rfl ?_) | ((with_reducible show wpList _ _ _ (⟨none, Op.store _ (.tmp 73) _, _, _, _, _⟩ :: _) _ _); refine wpList_store1 rfl 3 (.tmp 73) (.tmp 71) rfl eb 168 _ (by rfl) (by rfl) _ _ he8.blk (by rw [List.size_toArray, eraC_len]; omega) Tryz.sizeInt1 rfl rfl ?_; intro w9 hE9 g9; have he9 : EraIs w9 base eb M ((E.took at_ (takeT 8 E.sn l)).said (E.sn + 1)) := (by have h := he8.said g9 hE9; rw [show wrap64 ((E.took at_ (takeT 8 E.sn l)).sn + 1) = E.sn + 1 from HW1.out] at h; exact h); have hz9 := hz8.grown g9 (fun e => by have := Option.some.inj e; have := HEL.out; omega); have hk9 := hk8.grown g9 (fun e => by have := Option.some.inj e; have := HEL.out; omega); have hn9 := hn8.grown g9 (fun e => by have := Option.some.inj e; have := HEL.out; omega); have hg9 := hg8.step g9 (fun q e => by cases e; exact .inr (.inl rfl)); have hb9 := hb8.grown g9 (Nat.le_trans HBN.out hb8.size) (fun q e => by cases e; exact hbe); clear hz8 hk8 hn8 he8 hg8 hb8 hE9 g9 hcs))
    refine wp_region_held_drew (S := fun x => Blk x (N) zeroN.cells.toArray 86 ∧ Blk x (kb) ((lookT 8 E.sn l).1.map bv).toArray 23 ∧ EraIs x base eb M ((E.took at_ (takeT 8 E.sn l)).said (E.sn + 1)) ∧ Gr2 w r eb x ∧ Below base w x) (by kernel_rfl) ⟨hz9.drew, hk9.drew, he9.below (below_drewN (Below.refl _ _) 1), hg9.below (below_drewN (Below.refl _ _) 1), below_drewN hb9 1⟩ (fun hSq92 => ?_)
    have hEq93 := Blk.drew hn9
    refine wpAnyH_take (i := 0) (v := .pointer none) rfl (by kernel_rfl) (by kernel_rfl) (by kernel_rfl) (fun _ _ _ h => h) (Or.inl ⟨by rfl, fun x hx => by go_simp⟩) hSq92 ?_
    simp only [Act.put, List.getElem_toArray, List.getElem_cons_zero, List.getElem_cons_succ, List.setIfInBounds_toArray, List.set_cons_zero, List.set_cons_succ]
    refine wpAnyH_take (i := 1) rfl (by kernel_rfl) (by kernel_rfl) (by kernel_rfl) (fun _ _ _ h => h) (yieldsIf_load_mid (by rfl) 23 (.tmp 8) rfl (kb) (0) (by rfl) (((lookT 8 E.sn l).1.map bv)) _ (fun x hx => blk_rangeP hx.2.1) Tryz.underlying23 rfl (by rw [List.length_map, HKL.out]; exact Tryz.sizeHash)) hSq92 ?_
    simp only [Act.put, List.getElem_toArray, List.getElem_cons_zero, List.getElem_cons_succ, List.setIfInBounds_toArray, List.set_cons_zero, List.set_cons_succ]
    refine wpAnyH_take (i := 4) (v := .string (str s)) rfl (by kernel_rfl) (by kernel_rfl) (by kernel_rfl) (fun _ _ _ h => h) (Or.inl ⟨by rfl, fun x hx => by go_simp⟩) hSq92 ?_
    simp only [Act.put, List.getElem_toArray, List.getElem_cons_zero, List.getElem_cons_succ, List.setIfInBounds_toArray, List.set_cons_zero, List.set_cons_succ]
    refine wpAnyH_ready (rs := [2]) (by kernel_rfl) (by simp) ?_
    refine AllReadyH.cons rfl (fun K hK => ?_) AllReadyH.nil
    rw [if_pos (by rfl)]
    refine wp_load_mid 86 (.tmp 10) rfl nb 0 (by rfl) (noteE E []).cells _ (blk_rangeP hEq93) Tryz.underlying86 rfl (by rw [NoteA.cells_len]; exact Tryz.sizeNote) ?_
    refine hK.out _ _ hSq92 (fun hSq94 => ?_)
    clear hK K hSq92
    refine wpAnyH_ready (rs := [3]) (by kernel_rfl) (by simp) ?_
    refine AllReadyH.cons rfl (fun K hK => ?_) AllReadyH.nil
    go_simp
    go_wp2_with (go_at_call 103; refine (cH _).mono ?_; rintro e yq95 ⟨rfl, bq96⟩)
    have hEq97 := hEq93.below bq96 hEq93.lt
    refine hK.out _ _ ⟨hSq94.1.below bq96 hSq94.1.lt, hSq94.2.1.below bq96 hSq94.2.1.lt, hSq94.2.2.1.below bq96, hSq94.2.2.2.1.below bq96, hSq94.2.2.2.2.trans (bq96.mono (Nat.le_trans HBN.out hSq94.2.2.2.2.size))⟩ (fun hSq98 => ?_)
    clear hK K hSq94 bq96
    refine wpAnyH_ready (rs := [5]) (by kernel_rfl) (by simp) ?_
    refine AllReadyH.cons rfl (fun K hK => ?_) AllReadyH.nil
    go_simp
    go_wp2_with (go_at_call 102; refine (cS _).mono ?_; rintro e yq99 ⟨rfl, bq100⟩)
    have hEq101 := hEq97.below bq100 hEq97.lt
    refine hK.out _ _ ⟨hSq98.1.below bq100 hSq98.1.lt, hSq98.2.1.below bq100 hSq98.2.1.lt, hSq98.2.2.1.below bq100, hSq98.2.2.2.1.below bq100, hSq98.2.2.2.2.trans (bq100.mono (Nat.le_trans HBN.out hSq98.2.2.2.2.size))⟩ (fun hSq102 => ?_)
    clear hK K hSq98 bq100
    refine wpAnyH_take (i := 6) (v := .pointer (some ⟨nb, 35, none⟩)) rfl (by kernel_rfl) (by kernel_rfl) (by kernel_rfl) (fun _ _ _ h => h) (Or.inl ⟨by rfl, fun x hx => by go_simp⟩) hSq102 ?_
    simp only [Act.put, List.getElem_toArray, List.getElem_cons_zero, List.getElem_cons_succ, List.setIfInBounds_toArray, List.set_cons_zero, List.set_cons_succ]
    refine wpAnyH_ready (rs := [7]) (by kernel_rfl) (by simp) ?_
    refine AllReadyH.cons rfl (fun K hK => ?_) AllReadyH.nil
    rw [if_pos (by rfl)]
    refine wp_store1 9 (.tmp 80) (.tmp 79) rfl nb 35 (.string (str (sealT (lookT 8 E.sn l).1 (headN (noteE E [])) s))) (by rfl) (by rfl) _ _ hEq101 (by rw [List.size_toArray, NoteA.cells_len]; omega) Tryz.sizeStr1 rfl rfl ?_
    intro yq103 hEq104 grq105
    rw [note_setS] at hEq104
    refine hK.out _ _ ⟨hSq102.1.grown grq105 (fun e => by have := Option.some.inj e; omega), hSq102.2.1.grown grq105 (fun e => by have := Option.some.inj e; omega), hSq102.2.2.1.other2 grq105 hEq101 (note_0 _) (by decide) (by decide) (by decide) (by decide) (by decide) (by decide), hSq102.2.2.2.1.new grq105 (by rw [← HN.out]; omega), hSq102.2.2.2.2.grown grq105 (Nat.le_trans HBN.out hSq102.2.2.2.2.size) (fun q e => by cases e; have := HBN.out; have := HN.out; omega)⟩ (fun hSq106 => ?_)
    clear hK K hSq102
    refine wpAnyH_done (by kernel_rfl) ?_ _
    have hna : Blk yq103 nb (protN E (lookT 8 E.sn l).1 s).cells.toArray 86 := by rw [HSP.out]; exact hEq104
    have hza := hSq106.1
    have hka := hSq106.2.1
    have hea := hSq106.2.2.1
    have hga := hSq106.2.2.2.1
    have hba := hSq106.2.2.2.2
    obtain ⟨wa, hwa⟩ : ∃ z, z = yq103 := ⟨_, rfl⟩
    rw [← hwa] at hna hza hka hea hga hba ⊢
    clear hSq106 hEq104 hwa
    go_wp2_with fail
    refine wp_region_held_drew (S := fun x => Blk x (N) zeroN.cells.toArray 86 ∧ Blk x (kb) ((lookT 8 E.sn l).1.map bv).toArray 23 ∧ Blk x (nb) (protN E (lookT 8 E.sn l).1 s).cells.toArray 86 ∧ EraIs x base eb M ((E.took at_ (takeT 8 E.sn l)).said (E.sn + 1)) ∧ Gr2 w r eb x ∧ Below base w x) (by kernel_rfl) ⟨hza.drew, hka.drew, hna.drew, hea.below (below_drewN (Below.refl _ _) 1), hga.below (below_drewN (Below.refl _ _) 1), below_drewN hba 1⟩ (fun hSq107 => ?_)
    refine wpAnyH_take (i := 0) (v := .pointer none) rfl (by kernel_rfl) (by kernel_rfl) (by kernel_rfl) (fun _ _ _ h => h) (Or.inl ⟨by rfl, fun x hx => by go_simp⟩) hSq107 ?_
    simp only [Act.put, List.getElem_toArray, List.getElem_cons_zero, List.getElem_cons_succ, List.setIfInBounds_toArray, List.set_cons_zero, List.set_cons_succ]
    refine wpAnyH_take (i := 1) (v := .pointer (some ⟨nb, 0, none⟩)) rfl (by kernel_rfl) (by kernel_rfl) (by kernel_rfl) (fun _ _ _ h => h) (Or.inl ⟨by rfl, fun x hx => by go_simp⟩) hSq107 ?_
    simp only [Act.put, List.getElem_toArray, List.getElem_cons_zero, List.getElem_cons_succ, List.setIfInBounds_toArray, List.set_cons_zero, List.set_cons_succ]
    refine wpAnyH_take (i := 2) rfl (by kernel_rfl) (by kernel_rfl) (by kernel_rfl) (fun _ _ _ h => h) (yieldsIf_load_mid (by rfl) 23 (.tmp 82) rfl (nb) (0) (by rfl) ((E.f.id.map bv)) _ (fun x hx => note_h (n := (protN E (lookT 8 E.sn l).1 s)) hx.2.2.1) Tryz.underlying23 rfl (by rw [List.length_map, HIL.out]; exact Tryz.sizeHash)) hSq107 ?_
    simp only [Act.put, List.getElem_toArray, List.getElem_cons_zero, List.getElem_cons_succ, List.setIfInBounds_toArray, List.set_cons_zero, List.set_cons_succ]
    refine wpAnyH_take (i := 3) (v := .pointer (some ⟨nb, 33, none⟩)) rfl (by kernel_rfl) (by kernel_rfl) (by kernel_rfl) (fun _ _ _ h => h) (Or.inl ⟨by rfl, fun x hx => by go_simp⟩) hSq107 ?_
    simp only [Act.put, List.getElem_toArray, List.getElem_cons_zero, List.getElem_cons_succ, List.setIfInBounds_toArray, List.set_cons_zero, List.set_cons_succ]
    refine wpAnyH_take (i := 4) (v := .int .i64 E.me) rfl (by kernel_rfl) (by kernel_rfl) (by kernel_rfl) (fun _ _ _ h => h) (Or.inl ⟨by rfl, fun x hx => by have hc := hx.2.2.1.cell 33 _ (note_a _); go_simp <;> rfl⟩) hSq107 ?_
    simp only [Act.put, List.getElem_toArray, List.getElem_cons_zero, List.getElem_cons_succ, List.setIfInBounds_toArray, List.set_cons_zero, List.set_cons_succ]
    refine wpAnyH_take (i := 5) (v := .pointer (some ⟨nb, 34, none⟩)) rfl (by kernel_rfl) (by kernel_rfl) (by kernel_rfl) (fun _ _ _ h => h) (Or.inl ⟨by rfl, fun x hx => by go_simp⟩) hSq107 ?_
    simp only [Act.put, List.getElem_toArray, List.getElem_cons_zero, List.getElem_cons_succ, List.setIfInBounds_toArray, List.set_cons_zero, List.set_cons_succ]
    refine wpAnyH_take (i := 6) (v := .int .i64 E.sn) rfl (by kernel_rfl) (by kernel_rfl) (by kernel_rfl) (fun _ _ _ h => h) (Or.inl ⟨by rfl, fun x hx => by have hc := hx.2.2.1.cell 34 _ (note_g _); go_simp <;> rfl⟩) hSq107 ?_
    simp only [Act.put, List.getElem_toArray, List.getElem_cons_zero, List.getElem_cons_succ, List.setIfInBounds_toArray, List.set_cons_zero, List.set_cons_succ]
    refine wpAnyH_take (i := 8) rfl (by kernel_rfl) (by kernel_rfl) (by kernel_rfl) (fun _ _ _ h => h) (yieldsIf_load_mid (by rfl) 23 (.tmp 8) rfl (kb) (0) (by rfl) (((lookT 8 E.sn l).1.map bv)) _ (fun x hx => blk_rangeP hx.2.1) Tryz.underlying23 rfl (by rw [List.length_map, HKL.out]; exact Tryz.sizeHash)) hSq107 ?_
    simp only [Act.put, List.getElem_toArray, List.getElem_cons_zero, List.getElem_cons_succ, List.setIfInBounds_toArray, List.set_cons_zero, List.set_cons_succ]
    refine wpAnyH_ready (rs := [7]) (by kernel_rfl) (by simp) ?_
    refine AllReadyH.cons rfl (fun K hK => ?_) AllReadyH.nil
    go_simp
    go_wp2_with (go_at_call 35; refine (cN _).mono ?_; rintro e yq108 ⟨rfl, bq109⟩)
    refine hK.out _ _ ⟨hSq107.1.below bq109 hSq107.1.lt, hSq107.2.1.below bq109 hSq107.2.1.lt, hSq107.2.2.1.below bq109 hSq107.2.2.1.lt, hSq107.2.2.2.1.below bq109, hSq107.2.2.2.2.1.below bq109, hSq107.2.2.2.2.2.trans (bq109.mono (Nat.le_trans HBN.out hSq107.2.2.2.2.2.size))⟩ (fun hSq110 => ?_)
    clear hK K hSq107 bq109
    refine wpAnyH_ready (rs := [9]) (by kernel_rfl) (by simp) ?_
    refine AllReadyH.cons rfl (fun K hK => ?_) AllReadyH.nil
    go_simp
    go_wp2_with (go_at_call 104; refine (cB _).mono ?_; rintro e yq111 ⟨rfl, bq112⟩)
    refine hK.out _ _ ⟨hSq110.1.below bq112 hSq110.1.lt, hSq110.2.1.below bq112 hSq110.2.1.lt, hSq110.2.2.1.below bq112 hSq110.2.2.1.lt, hSq110.2.2.2.1.below bq112, hSq110.2.2.2.2.1.below bq112, hSq110.2.2.2.2.2.trans (bq112.mono (Nat.le_trans HBN.out hSq110.2.2.2.2.2.size))⟩ (fun hSq113 => ?_)
    clear hK K hSq110 bq112
    refine wpAnyH_done (by kernel_rfl) ?_ _
    have hz3 := hSq113.1
    have hn3 := hSq113.2.2.1
    have he3 := hSq113.2.2.2.1
    have hg3 := hSq113.2.2.2.2.1
    have hr3 := blk_rangeP hn3
    obtain ⟨w3, hw3⟩ : ∃ z, z = yq111 := ⟨_, rfl⟩
    rw [← hw3] at hz3 hn3 he3 hg3 hr3 ⊢
    clear hSq113 hw3
    go_wp2_with (first | ((with_reducible show wpList _ _ _ (⟨some 91, _, _, _, _, _⟩ :: _) _ _); refine wpList_load_mid rfl 86 (.tmp 10) rfl nb 0 (by rfl) (protN E (lookT 8 E.sn l).1 s).cells _ hr3 Tryz.underlying86 rfl (by rw [NoteA.cells_len]; exact Tryz.sizeNote) ?_) | ((with_reducible show wpList _ _ _ (⟨none, Op.store _ (.tmp 6) _, _, _, _, _⟩ :: _) _ _); refine wpList_storeBlk rfl 86 (.tmp 6) (.tmp 91) rfl N (protN E (lookT 8 E.sn l).1 s).cells.toArray (by rfl) (by rfl) _ _ hz3 (by rw [List.size_toArray, NoteA.cells_len]; exact Tryz.sizeNote) (by rw [List.size_toArray, List.size_toArray, NoteA.cells_len, NoteA.cells_len]) (note_all _) ?_; intro w4 hz4 g4))
    have he4 := he3.other2 g4 hz3 zn_0 (by decide) (by decide) (by decide) (by decide) (by decide) (by decide)
    have hg4 := hg3.new g4 (Nat.le_of_eq HN.out.symm)
    refine ret_blk2 rfl N _ _ _ (by rfl) hz4 Tryz.underlying86 rfl (by rw [List.size_toArray, NoteA.cells_len]; exact Tryz.sizeNote) rfl ?_
    exact ⟨rfl, he4, hg4⟩
end Go.Proofs.YtjlpdbaknhbgdaaGreat
