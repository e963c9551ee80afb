/-
  The group's tree; how a group lies in memory. How a group lies in memory. An era whose row has one key less; one that has said one more.
-/
import Derived.Test.YtjlpdbaknhbgdaaGreatQEra
import Derived.Test.YtjlpdbaknhbgdaaGreatQBase
import Derived.Test.YtjlpdbaknhbgdaaGreatQRefK
import Derived.Test.YtjlpdbaknhbgdaaGreatEraMake
import Derived.Test.YtjlpdbaknhbgdaaGreatREraMake
import Derived.Test.YtjlpdbaknhbgdaaGreatPprTake
import Derived.WalkLawsBesides
import Derived.Outline
import Derived.Handy
set_option linter.unusedSimpArgs false
set_option linter.unusedVariables false
namespace Go.Proofs.YtjlpdbaknhbgdaaGreat
open Go.RowKit

def leafN (x : Int) : LeafA := ⟨x, z32L, z32L, z32L, rfl, rfl, rfl⟩
def chatT : TreeT := ⟨[leafN 1, zeroL, leafN 2, leafN 3], [zeroP, zeroP, zeroP]⟩
theorem blk_ne {w : World} {a b : Nat} {cs ds : Array Value} {t u : TypeId} (h : Blk w a cs t) (h2 : Blk w b ds u) (ht : t ≠ u) : a ≠ b := fun e => by
  subst e
  unfold Blk at h h2
  rw [h] at h2
  simp at h2
  exact ht h2.2
def nilsV (n : Nat) : List Value := List.replicate n (.slice none 0 0)
theorem chat_right : rightT chatT = true := by decide
theorem chat_place2 : placeT chatT 2 = 2 := by decide
theorem Tryz.builtTree (a b : Nat) (n m : Nat) : Tryz.prog.built 27 [(0, .slice (some ⟨a, 0, none⟩) n n), (1, .slice (some ⟨b, 0, none⟩) m m)] = some #[.slice (some ⟨a, 0, none⟩) n n, .slice (some ⟨b, 0, none⟩) m m] := by
  rw [built_struct Tryz.zeroTree Tryz.underlying27 (places := [(0, 1), (1, 1)]) (by kernel_rfl), Value.cells]
  refine (fill_midV (A := []) (B := [.slice none 0 0]) (C := [.slice none 0 0]) (v := [.slice (some ⟨a, 0, none⟩) n n]) rfl rfl rfl rfl).trans ?_
  refine (fill_midV (A := [.slice (some ⟨a, 0, none⟩) n n]) (B := [.slice none 0 0]) (C := []) (v := [.slice (some ⟨b, 0, none⟩) m m]) rfl rfl rfl rfl).trans ?_
  simp [Instr.fill]
theorem TreeIs.ofBlks {w : World} {g1 g2 : Nat} (h1 : Blk w g1 (chatT.leaves.flatMap LeafA.cells).toArray 144) (h2 : Blk w g2 ((chatT.pars.zip (nilsV 3)).flatMap parCells).toArray 126) : TreeIs w (some ⟨g1, 0, none⟩) 4 4 (some ⟨g2, 0, none⟩) 3 3 (nilsV 3) chatT := by
  refine ⟨rfl, rfl, Nat.le_refl _, Nat.le_refl _, rfl, ?_, ?_, ?_, ?_⟩
  · refine RAt.elems LeafA.cells_len (c := 4) (.inr ⟨g1, 0, 4, rfl, h1.lt, fun j u hj => ?_⟩)
    rw [Nat.zero_add]
    exact h1.cell j u (by rw [List.getElem?_toArray]; exact hj)
  · refine RAt.elems (cells := parCells) (size := 66) (fun x => ParA.cells_len _ _) (c := 3) (.inr ⟨g2, 0, 3, rfl, h2.lt, fun j u hj => ?_⟩)
    rw [Nat.zero_add]
    exact h2.cell j u (by rw [List.getElem?_toArray]; exact hj)
  · intro l hl
    simp only [chatT, List.mem_cons, List.not_mem_nil, or_false] at hl
    rcases hl with rfl | rfl | rfl | rfl <;> (unfold wfI; decide)
  · intro i q u hq hu
    rw [nilsV, List.getElem?_replicate] at hu
    have e : u = .slice none 0 0 := by split at hu <;> simp_all
    have hz : q.loose = [] := by
      have := List.mem_of_getElem? hq
      simp only [chatT, List.mem_cons, List.not_mem_nil, or_false] at this
      rcases this with rfl | rfl | rfl <;> rfl
    rw [hz, e]
    exact ⟨none, 0, rfl, Nat.le_refl _, ⟨rfl, .inl rfl⟩, fun x hx => by simp at hx, by unfold maxLen; simp⟩
/-- The group's tree in memory. -/
structure TrG (w : World) (g1 g2 : Nat) : Prop where
  l : Blk w g1 (chatT.leaves.flatMap LeafA.cells).toArray 144
  p : Blk w g2 ((chatT.pars.zip (nilsV 3)).flatMap parCells).toArray 126
theorem TrG.below {w w' : World} {g1 g2 : Nat} (h : TrG w g1 g2) (b : Below w.heap.size w w') : TrG w' g1 g2 := ⟨h.l.below b h.l.lt, h.p.below b h.p.lt⟩
theorem TrG.other {w w' : World} {g1 g2 r : Nat} {cs : Array Value} {t : TypeId} (h : TrG w g1 g2) (g : w.grownBy w' (some r)) (hr : Blk w r cs t) (h1 : 144 ≠ t) (h2 : 126 ≠ t) : TrG w' g1 g2 :=
  ⟨h.l.grown g (fun e => blk_ne h.l hr h1 (Option.some.inj e)), h.p.grown g (fun e => blk_ne h.p hr h2 (Option.some.inj e))⟩
theorem TrG.is {w : World} {g1 g2 : Nat} (h : TrG w g1 g2) : TreeIs w (some ⟨g1, 0, none⟩) 4 4 (some ⟨g2, 0, none⟩) 3 3 (nilsV 3) chatT := TreeIs.ofBlks h.l h.p
theorem leaves_flat : (([.agg (leafN 1).cells.toArray, .agg zeroL.cells.toArray, .agg (leafN 2).cells.toArray, .agg (leafN 3).cells.toArray] : List Value).flatMap fun v => v.cells.toList) = chatT.leaves.flatMap LeafA.cells := by
  simp only [chatT, List.flatMap_cons, List.flatMap_nil, Value.cells]
theorem leaves_size : ∀ u ∈ ([.agg (leafN 1).cells.toArray, .agg zeroL.cells.toArray, .agg (leafN 2).cells.toArray, .agg (leafN 3).cells.toArray] : List Value), u.cells.size = 97 := by
  intro u hu
  simp only [List.mem_cons, List.not_mem_nil, or_false] at hu
  rcases hu with rfl | rfl | rfl | rfl <;> (rw [Value.cells, List.size_toArray]; exact LeafA.cells_len _)
theorem pars_size : ∀ u ∈ ([.agg (zeroP.cells (.slice none 0 0)).toArray, .agg (zeroP.cells (.slice none 0 0)).toArray, .agg (zeroP.cells (.slice none 0 0)).toArray] : List Value), u.cells.size = 66 := by
  intro u hu
  simp only [List.mem_cons, List.not_mem_nil, or_false] at hu
  rcases hu with rfl | rfl | rfl <;> (rw [Value.cells, List.size_toArray]; exact ParA.cells_len _ _)
theorem Tryz.builtL1 : Tryz.prog.built 144 [(0, .int .i64 1)] = some (leafN 1).cells.toArray := by kernel_rfl
theorem Tryz.builtL2 : Tryz.prog.built 144 [(0, .int .i64 2)] = some (leafN 2).cells.toArray := by kernel_rfl
theorem Tryz.builtL3 : Tryz.prog.built 144 [(0, .int .i64 3)] = some (leafN 3).cells.toArray := by kernel_rfl
theorem Tryz.builtL0 : Tryz.prog.built 144 [] = some zeroL.cells.toArray := by kernel_rfl
theorem Tryz.builtP0 : Tryz.prog.built 126 [] = some (zeroP.cells (.slice none 0 0)).toArray := by kernel_rfl
theorem pars_flat : (([.agg (zeroP.cells (.slice none 0 0)).toArray, .agg (zeroP.cells (.slice none 0 0)).toArray, .agg (zeroP.cells (.slice none 0 0)).toArray] : List Value).flatMap fun v => v.cells.toList) = (chatT.pars.zip (nilsV 3)).flatMap parCells := by
  simp only [chatT, nilsV, List.replicate, List.zip_cons_cons, List.zip_nil_left, List.flatMap_cons, List.flatMap_nil, Value.cells, parCells]
set_option maxHeartbeats 4000000 in
set_option maxRecDepth 100000 in
theorem Tree14_calls (w : World) : Calls Tryz.prog 101 #[] w fun e w' => ∃ g1 g2, e = .returned (.agg #[.slice (some ⟨g1, 0, none⟩) 4 4, .slice (some ⟨g2, 0, none⟩) 3 3]) ∧ TrG w' g1 g2 ∧ Below w.heap.size w w' := by
  obtain ⟨N, hN⟩ : ∃ N, N = w.heap.size := ⟨_, rfl⟩
  have HN : Hid (N = w.heap.size) := hN
  have hZ : Blk (w.alloc (.cells #[.slice none 0 0, .slice none 0 0] 27)) N #[.slice none 0 0, .slice none 0 0] 27 := by rw [hN]; exact Blk.new _ _ _
  have hb0 : Below N w (w.alloc (.cells #[.slice none 0 0, .slice none 0 0] 27)) := by rw [hN]; exact below_alloc1 _ _
  rw [← hN]
  go_enter Tryz.func101, Tryz.ntmps101
  go_upto_region 1 with (fail)
  rw [← hN]
  obtain ⟨w0, hw0⟩ : ∃ z, z = w.alloc (.cells #[.slice none 0 0, .slice none 0 0] 27) := ⟨_, rfl⟩
  rw [← hw0] at hZ hb0 ⊢
  clear hw0 hN
  have hb1 := Tryz.builtL1
  have hb2 := Tryz.builtL2
  have hb3 := Tryz.builtL3
  have hbz := Tryz.builtL0
  have hbp := Tryz.builtP0
  have hzl := Tryz.zsLeaf
  have hzp := Tryz.zsPar
  have hls := leaves_size
  have hps := pars_size
  have hlf := leaves_flat
  have hpf := pars_flat
  have hfin : ∀ (y : World) (g1 g2 : Nat), Blk y g1 (chatT.leaves.flatMap LeafA.cells).toArray 144 → Blk y g2 ((chatT.pars.zip (nilsV 3)).flatMap parCells).toArray 126 → TrG y g1 g2 := fun y g1 g2 h1 h2 => ⟨h1, h2⟩
  generalize (Value.agg zeroL.cells.toArray) = zl at hzl
  generalize (Value.agg (zeroP.cells (.slice none 0 0)).toArray) = zp at hzp
  generalize (leafN 1).cells.toArray = c1 at *
  generalize (leafN 2).cells.toArray = c2 at *
  generalize (leafN 3).cells.toArray = c3 at *
  generalize zeroL.cells.toArray = c0 at *
  generalize (zeroP.cells (.slice none 0 0)).toArray = cp at *
  generalize chatT.leaves.flatMap LeafA.cells = CL at *
  generalize (chatT.pars.zip (nilsV 3)).flatMap parCells = CP at *
  refine wp_region_lit ?_
  refine wpList_buildCells rfl 144 #[(0, .const (.int .i64 1))] rfl (c1) hb1 ?_
  simp only [Act.put, List.getElem_toArray, List.getElem_cons_zero, List.getElem_cons_succ, List.setIfInBounds_toArray, List.set_cons_zero, List.set_cons_succ]
  refine wpList_buildCells rfl 144 #[] rfl (c0) hbz ?_
  simp only [Act.put, List.getElem_toArray, List.getElem_cons_zero, List.getElem_cons_succ, List.setIfInBounds_toArray, List.set_cons_zero, List.set_cons_succ]
  refine wpList_buildCells rfl 144 #[(0, .const (.int .i64 2))] rfl (c2) hb2 ?_
  simp only [Act.put, List.getElem_toArray, List.getElem_cons_zero, List.getElem_cons_succ, List.setIfInBounds_toArray, List.set_cons_zero, List.set_cons_succ]
  refine wpList_buildCells rfl 144 #[(0, .const (.int .i64 3))] rfl (c3) hb3 ?_
  simp only [Act.put, List.getElem_toArray, List.getElem_cons_zero, List.getElem_cons_succ, List.setIfInBounds_toArray, List.set_cons_zero, List.set_cons_succ]
  refine wpList_bsN rfl 24 144 4 _ rfl [.agg c1, .agg c0, .agg c2, .agg c3] (by rfl) rfl Tryz.underlying24 zl 97 hzl hls (by omega) (by omega) (by omega) ?_
  intro w1 s1 b1 n1
  rw [hlf] at n1
  have hZ1 := hZ.below b1 hZ.lt
  have hB1 := hb0.trans (b1.mono (Nat.le_trans (Nat.le_of_eq HN.out) hb0.size))
  obtain ⟨g1, hg1⟩ : ∃ z, z = w0.heap.size := ⟨_, rfl⟩
  rw [← hg1] at n1
  rw [← hg1]
  clear hZ hb0 b1 s1 hg1
  simp only [Act.put, List.getElem_toArray, List.getElem_cons_zero, List.getElem_cons_succ, List.setIfInBounds_toArray, List.set_cons_zero, List.set_cons_succ]
  refine wpList_buildCells rfl 126 #[] rfl (cp) hbp ?_
  simp only [Act.put, List.getElem_toArray, List.getElem_cons_zero, List.getElem_cons_succ, List.setIfInBounds_toArray, List.set_cons_zero, List.set_cons_succ]
  refine wpList_buildCells rfl 126 #[] rfl (cp) hbp ?_
  simp only [Act.put, List.getElem_toArray, List.getElem_cons_zero, List.getElem_cons_succ, List.setIfInBounds_toArray, List.set_cons_zero, List.set_cons_succ]
  refine wpList_buildCells rfl 126 #[] rfl (cp) hbp ?_
  simp only [Act.put, List.getElem_toArray, List.getElem_cons_zero, List.getElem_cons_succ, List.setIfInBounds_toArray, List.set_cons_zero, List.set_cons_succ]
  refine wpList_bsN rfl 25 126 3 _ rfl [.agg cp, .agg cp, .agg cp] (by rfl) rfl Tryz.underlying25 zp 66 hzp hps (by omega) (by omega) (by omega) ?_
  intro w2 s2 b2 n2
  rw [hpf] at n2
  have hZ2 := hZ1.below b2 hZ1.lt
  have hL2 := n1.below b2 n1.lt
  have hB2 := hB1.trans (b2.mono (Nat.le_trans (Nat.le_of_eq HN.out) hB1.size))
  obtain ⟨g2, hg2⟩ : ∃ z, z = w1.heap.size := ⟨_, rfl⟩
  rw [← hg2] at n2
  rw [← hg2]
  clear hZ1 hB1 n1 b2 s2 hg2
  simp only [Act.put, List.getElem_toArray, List.getElem_cons_zero, List.getElem_cons_succ, List.setIfInBounds_toArray, List.set_cons_zero, List.set_cons_succ]
  refine wpList_buildCells rfl 27 #[(0, .tmp 5), (1, .tmp 9)] rfl (#[.slice (some ⟨g1, 0, none⟩) 4 4, .slice (some ⟨g2, 0, none⟩) 3 3]) (Tryz.builtTree g1 g2 4 3) ?_
  simp only [Act.put, List.getElem_toArray, List.getElem_cons_zero, List.getElem_cons_succ, List.setIfInBounds_toArray, List.set_cons_zero, List.set_cons_succ]
  refine wpList_storeBlk rfl 27 (.tmp 0) (.tmp 10) rfl N (#[.slice (some ⟨g1, 0, none⟩) 4 4, .slice (some ⟨g2, 0, none⟩) 3 3]) (by rfl) (by rfl) _ _ hZ2 (Tryz.sizeTree) (by rfl) (by simp [Value.oneCell']) ?_
  intro w3 hZ3 g3
  simp only [Act.put, List.getElem_toArray, List.getElem_cons_zero, List.getElem_cons_succ, List.setIfInBounds_toArray, List.set_cons_zero, List.set_cons_succ]
  go_wp2_with fail
  have hL3 := hL2.grown g3 (fun e => blk_ne hL2 hZ2 (by decide) (Option.some.inj e))
  have hP3 := n2.grown g3 (fun e => blk_ne n2 hZ2 (by decide) (Option.some.inj e))
  have hB3 := hB2.grown g3 (Nat.le_trans (Nat.le_of_eq HN.out) hB2.size) (fun q e => by cases e; exact Nat.le_refl _)
  refine ret_blk rfl N 27 _ _ (by rfl) hZ3 Tryz.underlying27 rfl Tryz.sizeTree rfl ?_
  exact ⟨g1, g2, rfl, hfin _ _ _ hL3 hP3, hB3⟩
end Go.Proofs.YtjlpdbaknhbgdaaGreat
set_option linter.unusedSimpArgs false
set_option linter.unusedVariables false
namespace Go.Proofs.YtjlpdbaknhbgdaaGreat
open Go.RowKit

theorem derive_len' (a b c : List UInt8) : (derive a b c).length = 32 := hmac_len _ _
def chatId (j : List UInt8) : List UInt8 := [7, j.headD 0] ++ List.replicate 30 0
def chatF (j : List UInt8) (d : Int) : FrA := ⟨chatId j, z32L, d, z32L, List.replicate 64 0, rfl, rfl, rfl, rfl⟩
def inG (j : List UInt8) : List UInt8 := derive (epochT j []) lInit []
def apG (j : List UInt8) : List UInt8 := derive (epochT j []) lApps []
def exG (j : List UInt8) : List UInt8 := derive (epochT j []) lExport []
def eraG (j : List UInt8) (d : Int) (k : Nat) : EraD := ⟨chatF j d, chatT, k, [], [⟨0, 0, inG j⟩], 0, appsOf (apG j) chatT.leaves, 0, exG j, derive_len' _ _ _⟩
def memG (j : List UInt8) (d : Int) (k : Nat) : RMemD := ⟨chatF j d, chatT, k, inG j, rappsOf (apG j) (derive_len' _ _ _) 4, 0, exG j, epochT j [], derive_len' _ _ _, derive_len' _ _ _, derive_len' _ _ _⟩
def pad {α : Type} (z : α) (l : List α) : List α := z :: l ++ List.replicate (3 - l.length) z
theorem pad_len {α : Type} (z : α) (l : List α) (h : l.length ≤ 3) : (pad z l).length = 4 := by simp [pad]; omega
theorem pad_snoc {α : Type} (z : α) (l : List α) (x : α) (h : l.length < 3) : pad z (l ++ [x]) = (pad z l).set (l.length + 1) x := by
  obtain ⟨k, hk⟩ : ∃ k, 3 - l.length = k + 1 := ⟨2 - l.length, by omega⟩
  have h2 : 3 - (l.length + 1) = k := by omega
  simp only [pad, List.cons_append, List.set_cons_succ, List.length_append, List.length_cons, List.length_nil, Nat.zero_add, hk, h2, List.append_assoc, List.nil_append]
  rw [List.set_append_right _ _ (Nat.le_refl _), Nat.sub_self, List.replicate_succ, List.set_cons_zero]
theorem pad_get {α : Type} (z : α) (l : List α) (k : Nat) (x : α) (h : l[k]? = some x) : (pad z l)[k + 1]? = some x := by
  rw [pad, List.cons_append, List.getElem?_cons_succ, List.getElem?_append_left (List.getElem?_eq_some_iff.1 h).1]; exact h
def gC (ps : List (Option Nat)) (qs : List (List Value)) : List Value := ps.map ptrV ++ qs.flatten
theorem gC_set (ps : List (Option Nat)) (qs : List (List Value)) (k : Nat) (o : Option Nat) (h : k < ps.length) : (gC ps qs).set k (ptrV o) = gC (ps.set k o) qs := by
  rw [gC, gC, List.set_append_left _ _ (by simpa using h), List.map_set]
theorem flat266 : ∀ (qs : List (List Value)) (k : Nat) (q : List Value), (∀ q ∈ qs, q.length = 266) → qs[k]? = some q → ∃ A C, qs.flatten = A ++ (q ++ C) ∧ A.length = k * 266 ∧ ∀ v, (qs.set k v).flatten = A ++ (v ++ C)
  | [], k, q, _, h => by simp at h
  | x :: qs, 0, q, _, h => by
    obtain rfl : x = q := by simpa using h
    exact ⟨[], qs.flatten, by simp, by simp, fun v => by simp⟩
  | x :: qs, k + 1, q, hl, h => by
    obtain ⟨A, C, h1, h2, h3⟩ := flat266 qs k q (fun q hq => hl q (List.mem_cons_of_mem _ hq)) (by simpa using h)
    exact ⟨x ++ A, C, by simp [h1], by rw [List.length_append, h2, hl x List.mem_cons_self]; omega, fun v => by simp [h3]⟩
theorem gC_split (ps : List (Option Nat)) (qs : List (List Value)) (k : Nat) (q : List Value) (hp : ps.length = 4) (hq : ∀ q ∈ qs, q.length = 266) (h : qs[k]? = some q) : ∃ A C, gC ps qs = A ++ (q ++ C) ∧ A.length = 4 + k * 266 ∧ ∀ v, gC ps (qs.set k v) = A ++ (v ++ C) := by
  obtain ⟨A, C, h1, h2, h3⟩ := flat266 qs k q hq h
  exact ⟨ps.map ptrV ++ A, C, by rw [gC, h1, List.append_assoc], by rw [List.length_append, List.length_map, hp, h2], fun v => by rw [gC, h3, List.append_assoc]⟩
theorem gC_len (ps : List (Option Nat)) (qs : List (List Value)) (hp : ps.length = 4) (h4 : qs.length = 4) (hq : ∀ q ∈ qs, q.length = 266) : (gC ps qs).length = 1068 := by
  have : ∀ qs : List (List Value), (∀ q ∈ qs, q.length = 266) → qs.flatten.length = qs.length * 266 := by
    intro qs
    induction qs with
    | nil => intro _; rfl
    | cons x qs ih => intro hl; rw [List.flatten_cons, List.length_append, ih fun q hq => hl q (List.mem_cons_of_mem _ hq), hl x List.mem_cons_self, List.length_cons]; omega
  rw [gC, List.length_append, List.length_map, hp, this qs hq, h4]
theorem zeroRE_len : zeroRE.length = 266 := reraCells_len _ _ _ _ _ _ _ _ _ _ _ _ _ rfl rfl rfl
def plainsG (rs : List RMemM) (Ds : List RMemD) : List (List Value) := (rs.zip Ds).map fun x => rerC x.1 x.2
theorem plainsG_len (rs : List RMemM) (Ds : List RMemD) : ∀ q ∈ pad zeroRE (plainsG rs Ds), q.length = 266 := by
  intro q hq
  simp only [pad, List.cons_append, List.mem_cons, List.mem_append, List.mem_replicate, plainsG, List.mem_map] at hq
  rcases hq with rfl | ⟨x, _, rfl⟩ | ⟨_, rfl⟩
  · exact zeroRE_len
  · exact rerC_len _ _
  · exact zeroRE_len
def rowsOf (x : Nat × EraM) : List Nat := x.1 :: x.2.ir :: x.2.rs.filterMap id
theorem EraIs.rows_lt {w : World} {base eb : Nat} {M : EraM} {E : EraD} (h : EraIs w base eb M E) : ∀ q ∈ rowsOf (eb, M), base ≤ q ∧ q < w.heap.size := by
  intro q hq
  simp only [rowsOf, List.mem_cons] at hq
  rcases hq with rfl | rfl | hq
  · exact ⟨h.hb, h.blk.lt⟩
  · exact ⟨h.hir, h.init.lt⟩
  · obtain ⟨o, ho, he⟩ := List.mem_filterMap.1 hq
    obtain ⟨i, hi⟩ := List.getElem?_of_mem ho
    cases o with
    | none => cases he
    | some y =>
      cases he
      have hil : i < M.rs.length := (List.getElem?_eq_some_iff.1 hi).1
      have hia : i < E.apps.length := by rw [← h.la]; exact hil
      have := h.rows i _ _ hi (List.getElem?_eq_getElem hia)
      generalize E.apps[i] = q at this
      cases q with
      | none => exact this.elim
      | some q => exact ⟨this.2, this.1.lt⟩
theorem EraIs.nodup {w : World} {base eb : Nat} {M : EraM} {E : EraD} (h : EraIs w base eb M E) : (rowsOf (eb, M)).Nodup := by
  refine List.nodup_cons.2 ⟨fun hm => ?_, h.dist⟩
  have hrow : ∀ q, (∃ B l, RowAt w q B l) → q ≠ eb := fun q ⟨B, l, hq⟩ e => by
    subst e
    obtain ⟨v, hv⟩ := hq.slot
    exact blk_ne hv h.blk (by decide) rfl
  rcases List.mem_cons.1 hm with e | hm
  · exact hrow _ ⟨_, _, h.init⟩ e.symm
  · obtain ⟨o, ho, he⟩ := List.mem_filterMap.1 hm
    obtain ⟨i, hi⟩ := List.getElem?_of_mem ho
    cases o with
    | none => cases he
    | some y =>
      cases he
      have hil : i < M.rs.length := (List.getElem?_eq_some_iff.1 hi).1
      have hia : i < E.apps.length := by rw [← h.la]; exact hil
      have := h.rows i _ _ hi (List.getElem?_eq_getElem hia)
      generalize E.apps[i] = q at this
      cases q with
      | none => exact this.elim
      | some q => exact hrow _ ⟨_, _, this.1⟩ rfl
theorem RowO.low {w : World} {b1 b2 : Nat} {o : Option Nat} {q : Option (List Sd)} (h : RowO w b1 o q) (hb : b2 ≤ b1) : RowO w b2 o q := by
  cases o <;> cases q <;> first | exact h | exact ⟨h.1, Nat.le_trans hb h.2⟩
theorem TreeOwn.lowG {w : World} {b1 b2 : Nat} {lo po : Option Addr} {n ac m pc : Nat} {lvs : List Value} {T : TreeT} (h : TreeOwn w b1 lo n ac po m pc lvs T) (hb : b2 ≤ b1) : TreeOwn w b2 lo n ac po m pc lvs T :=
  ⟨h.ln, h.lm, h.lv, h.el.low hb, h.ep.low hb, fun i q u e1 e2 => (h.lo i q u e1 e2).low hb, h.wf, h.wl⟩
theorem EraIs.low {w : World} {b1 b2 eb : Nat} {M : EraM} {E : EraD} (h : EraIs w b1 eb M E) (hb : b2 ≤ b1) : EraIs w b2 eb M E :=
  ⟨h.blk, Nat.le_trans hb h.hb, h.tree.lowG hb, h.keys.low hb, h.init, Nat.le_trans hb h.hir, h.av.low hb, h.la, fun i o q h1 h2 => (h.rows i o q h1 h2).low hb, h.dist⟩
theorem RMemIs.low {w : World} {b1 b2 : Nat} {M : RMemM} {D : RMemD} (h : RMemIs w b1 M D) (hb : b2 ≤ b1) : RMemIs w b2 M D :=
  ⟨h.tree.lowG hb, h.keys.low hb, h.av.low hb, h.lv, fun i q u h1 h2 => (h.tk i q u h1 h2).low hb⟩
theorem RowO.otherT {w w' : World} {b2 M : Nat} {o : Option Nat} {q : Option (List Sd)} {cs : Array Value} {t : TypeId} (h : RowO w b2 o q) (gr : w.grownBy w' (some M)) (hM : Blk w M cs t) (h0 : ∃ u, cs[0]? = some u ∧ ∀ n, u ≠ .int .i64 n) : RowO w' b2 o q := by
  cases o <;> cases q <;> first | exact h | exact ⟨h.1.other gr hM h0, h.2⟩
/-- A block of another type is written. -/
theorem EraIs.other {w w' : World} {base eb r : Nat} {M : EraM} {E : EraD} {cs : Array Value} {t : TypeId} (h : EraIs w base eb M E) (g : w.grownBy w' (some r)) (hr : Blk w r cs t) (h0 : ∃ u, cs[0]? = some u ∧ ∀ n, u ≠ .int .i64 n) (hne : eb ≠ r) (h1 : 144 ≠ t) (h2 : 126 ≠ t) (h3 : 3 ≠ t) (h4 : 142 ≠ t) (h5 : 54 ≠ t) : EraIs w' base eb M E :=
  ⟨h.blk.grown g (fun e => hne (Option.some.inj e)), h.hb, h.tree.other g hr h1 h2 h3, h.keys.other g hr h4, h.init.other g hr h0, h.hir, h.av.other g hr h5, h.la, fun i o q e1 e2 => (h.rows i o q e1 e2).otherT g hr h0, h.dist⟩
/-- A group: the eras of its members, and the document's. -/
structure GrpIs (w : World) (base gb : Nat) (ms : List (Nat × EraM)) (Es : List EraD) (rs : List RMemM) (Ds : List RMemD) : Prop where
  blk : Blk w gb (gC (pad none (ms.map fun x => some x.1)) (pad zeroRE (plainsG rs Ds))).toArray 92
  hb : base ≤ gb
  lm : ms.length = Es.length
  l3 : Es.length ≤ 3
  lr : rs.length = Ds.length
  r3 : Ds.length ≤ 3
  es : ∀ (k : Nat) (x : Nat × EraM) (E : EraD), ms[k]? = some x → Es[k]? = some E → EraIs w base x.1 x.2 E
  rm : ∀ (k : Nat) (M : RMemM) (D : RMemD), rs[k]? = some M → Ds[k]? = some D → RMemIs w base M D
  dist : (ms.flatMap rowsOf).Nodup
section
variable {w w' : World} {base gb r : Nat} {ms : List (Nat × EraM)} {Es : List EraD} {rs : List RMemM} {Ds : List RMemD} {cs : Array Value} {t : TypeId}
theorem GrpIs.below (h : GrpIs w base gb ms Es rs Ds) (b : Below w.heap.size w w') : GrpIs w' base gb ms Es rs Ds :=
  ⟨h.blk.below b h.blk.lt, h.hb, h.lm, h.l3, h.lr, h.r3, fun k x E h1 h2 => (h.es k x E h1 h2).below b, fun k M D h1 h2 => (h.rm k M D h1 h2).below b, h.dist⟩
theorem GrpIs.rows_lt (h : GrpIs w base gb ms Es rs Ds) : ∀ q ∈ ms.flatMap rowsOf, q < w.heap.size := by
  intro q hq
  obtain ⟨x, hx, hq⟩ := List.mem_flatMap.1 hq
  obtain ⟨k, hk⟩ := List.getElem?_of_mem hx
  have hkl : k < Es.length := by rw [← h.lm]; exact (List.getElem?_eq_some_iff.1 hk).1
  exact ((h.es k x _ hk (List.getElem?_eq_getElem hkl)).rows_lt q hq).2
theorem GrpIs.other (h : GrpIs w base gb ms Es rs Ds) (g : w.grownBy w' (some r)) (hr : Blk w r cs t) (h0 : ∃ u, cs[0]? = some u ∧ ∀ n, u ≠ .int .i64 n) (hne : 57 ≠ t) (hg : 92 ≠ t) (h1 : 144 ≠ t) (h2 : 126 ≠ t) (h3 : 3 ≠ t) (h4 : 142 ≠ t) (h5 : 54 ≠ t) (h6 : 42 ≠ t) : GrpIs w' base gb ms Es rs Ds :=
  ⟨h.blk.grown g (fun e => blk_ne h.blk hr hg (Option.some.inj e)), h.hb, h.lm, h.l3, h.lr, h.r3, fun k x E e1 e2 => (h.es k x E e1 e2).other g hr h0 (blk_ne (h.es k x E e1 e2).blk hr hne) h1 h2 h3 h4 h5, fun k M D e1 e2 => (h.rm k M D e1 e2).other g hr h1 h2 h3 h4 h6, h.dist⟩
end
/-- A new era, beside those of ms. -/
structure NewEra (w : World) (base : Nat) (ms : List (Nat × EraM)) (eb : Nat) (M : EraM) (E : EraD) : Prop where
  is : EraIs w base eb M E
  dist : ((ms ++ [(eb, M)]).flatMap rowsOf).Nodup
theorem NewEra.below {w w' : World} {base : Nat} {ms : List (Nat × EraM)} {eb : Nat} {M : EraM} {E : EraD} (h : NewEra w base ms eb M E) (b : Below w.heap.size w w') : NewEra w' base ms eb M E := ⟨h.is.below b, h.dist⟩
theorem NewEra.make {w w' : World} {base gb : Nat} {ms : List (Nat × EraM)} {Es : List EraD} {rs : List RMemM} {Ds : List RMemD} {eb : Nat} {M : EraM} {E : EraD} (h : GrpIs w base gb ms Es rs Ds) (hb : base ≤ w.heap.size) (n : EraIs w' w.heap.size eb M E) : NewEra w' base ms eb M E := by
  refine ⟨n.low hb, ?_⟩
  rw [List.flatMap_append, List.nodup_append]
  refine ⟨h.dist, by simpa using n.nodup, fun a ha b hb2 e => ?_⟩
  have h1 := h.rows_lt a ha
  have h2 := (n.rows_lt b (by simpa using hb2)).1
  omega
/-- So much was made since. -/
structure After (wt x : World) : Prop where
  b : Below wt.heap.size wt x
theorem After.below {wt x y : World} (h : After wt x) (b : Below x.heap.size x y) : After wt y := ⟨h.b.trans (b.mono h.b.size)⟩
theorem After.grown {wt x y : World} {r : Nat} (h : After wt x) (g : x.grownBy y (some r)) (hr : wt.heap.size ≤ r) : After wt y := ⟨h.b.grown g h.b.size (fun q e => by cases e; exact hr)⟩
theorem zeroRE_0 : ∃ u, zeroRE.toArray[0]? = some u ∧ ∀ n, u ≠ .int .i64 n := ⟨bv 0, by rw [List.getElem?_toArray, zeroRE, reraCells, List.getElem?_append_left (by rw [FrA.cells_len]; omega), FrA.cells, List.getElem?_append_left (by rw [List.length_map, zeroF.hi]; omega)]; rfl, by intro n e; cases e⟩
theorem gC_0 (ms : List (Nat × EraM)) (qs : List (List Value)) : ∃ u, (gC (pad none (ms.map fun x => some x.1)) qs).toArray[0]? = some u ∧ ∀ n, u ≠ .int .i64 n := ⟨.pointer none, by rw [List.getElem?_toArray]; simp [gC, pad, ptrV], by intro n e; cases e⟩
def zeroG : List Value := gC (pad none []) (pad zeroRE [])
theorem Tryz.builtGrp : Tryz.prog.built 92 [] = some zeroG.toArray := by kernel_rfl
theorem built_array {P : Program} {t e : TypeId} {n : Nat} {parts : List (Nat × Value)} {z : Value} {s : Nat} (hz : (P.info? t).bind (·.zero) = some z) (hu : P.underlying t = some (.array n e)) (hs : (P.info? e).map (·.size) = some s) : P.built t parts = Instr.fill (fun i => some (i * s, s)) z.cells parts := by
  unfold Program.built
  cases hi : P.info? t with
  | none => simp [hi] at hz
  | some it =>
    have hz' : it.zero = some z := by simpa [hi] using hz
    cases he : P.info? e with
    | none => simp [he] at hs
    | some ie =>
      have hs' : ie.size = s := by simpa [he] using hs
      simp only [hu, hz', hs', he]
theorem Tryz.sizeU8 : (Tryz.prog.info? 5).map (·.size) = some 1 := by kernel_rfl
theorem Tryz.zeroHashL : (Tryz.prog.info? 23).bind (·.zero) = some (.agg (z32L.map bv).toArray) := by kernel_rfl
theorem Tryz.builtId (j : List UInt8) : Tryz.prog.built 23 [(0, .int .u8 7), (1, bv (j.headD 0))] = some ((chatId j).map bv).toArray := by
  rw [built_array Tryz.zeroHashL Tryz.underlying23 Tryz.sizeU8, Value.cells]
  refine (fill_midV (A := []) (B := [bv 0]) (C := (List.replicate 31 (0 : UInt8)).map bv) (v := [.int .u8 7]) rfl rfl rfl rfl).trans ?_
  refine (fill_midV (A := [.int .u8 7]) (B := [bv 0]) (C := (List.replicate 30 (0 : UInt8)).map bv) (v := [bv (j.headD 0)]) rfl rfl rfl rfl).trans ?_
  rw [Instr.fill, chatId, List.map_append]
  rfl
theorem frame_fill {place : Nat → Option (Nat × Nat)} (f : FrA) (lv pv : Value) (tv : Array Value) (ht : tv = #[lv, pv]) (h0 : place 0 = some (0, 32)) (h2 : place 2 = some (64, 1)) (h3 : place 3 = some (65, 2)) (hp : f.par = z32L) (hs : f.said = z32L) (hti : f.times = List.replicate 64 0) :
    Instr.fill place (zeroF.cells (.slice none 0 0) (.slice none 0 0)).toArray [(0, .agg (f.id.map bv).toArray), (2, .int .i64 f.dep), (3, .agg tv)] = some (f.cells lv pv).toArray := by
  subst ht
  have e0 : zeroF.cells (.slice none 0 0) (.slice none 0 0) = [] ++ (z32L.map bv ++ (z32L.map bv ++ (.int .i64 0 :: .slice none 0 0 :: .slice none 0 0 :: (z32L.map bv ++ (List.replicate 64 0).map intC)))) := rfl
  refine (fill_midV (A := []) (B := z32L.map bv) (C := z32L.map bv ++ (.int .i64 0 :: .slice none 0 0 :: .slice none 0 0 :: (z32L.map bv ++ (List.replicate 64 0).map intC))) (v := f.id.map bv) rfl e0 (by rw [h0]; simp [f.hi]) (by simp [f.hi, z32L])).trans ?_
  refine (fill_midV (A := f.id.map bv ++ z32L.map bv) (B := [.int .i64 0]) (C := .slice none 0 0 :: .slice none 0 0 :: (z32L.map bv ++ (List.replicate 64 0).map intC)) (v := [.int .i64 f.dep]) rfl (by simp) (by rw [h2]; simp [f.hi, z32L]) rfl).trans ?_
  refine (fill_midV (A := f.id.map bv ++ z32L.map bv ++ [.int .i64 f.dep]) (B := [.slice none 0 0, .slice none 0 0]) (C := z32L.map bv ++ (List.replicate 64 0).map intC) (v := [lv, pv]) rfl (by simp) (by rw [h3]; simp [f.hi, z32L]) rfl).trans ?_
  rw [Instr.fill, FrA.cells, hp, hs, hti]
  simp
theorem Tryz.zeroRFr : (Tryz.prog.info? 39).bind (·.zero) = some (.agg (zeroF.cells (.slice none 0 0) (.slice none 0 0)).toArray) := by kernel_rfl
theorem Tryz.zeroFr : (Tryz.prog.info? 53).bind (·.zero) = some (.agg (zeroF.cells (.slice none 0 0) (.slice none 0 0)).toArray) := by kernel_rfl
theorem Tryz.builtRFr (j : List UInt8) (d : Int) (lv pv : Value) : Tryz.prog.built 39 [(0, .agg ((chatId j).map bv).toArray), (2, .int .i64 d), (3, .agg #[lv, pv])] = some ((chatF j d).cells lv pv).toArray := by
  rw [built_struct Tryz.zeroRFr Tryz.underlying39 (places := [(0, 32), (32, 32), (64, 1), (65, 2), (67, 32), (99, 64)]) (by kernel_rfl), Value.cells]
  exact frame_fill (chatF j d) lv pv _ rfl rfl rfl rfl rfl rfl rfl
theorem Tryz.builtFr (j : List UInt8) (d : Int) (lv pv : Value) : Tryz.prog.built 53 [(0, .agg ((chatId j).map bv).toArray), (2, .int .i64 d), (3, .agg #[lv, pv])] = some ((chatF j d).cells lv pv).toArray := by
  rw [built_struct Tryz.zeroFr Tryz.underlying53 (places := [(0, 32), (32, 32), (64, 1), (65, 2), (67, 32), (99, 64)]) (by kernel_rfl), Value.cells]
  exact frame_fill (chatF j d) lv pv _ rfl rfl rfl rfl rfl rfl rfl
end Go.Proofs.YtjlpdbaknhbgdaaGreat
set_option linter.unusedSimpArgs false
set_option linter.unusedVariables false
namespace Go.Proofs.YtjlpdbaknhbgdaaGreat
open Go.RowKit

theorem grown_newR {w y z : World} {r : Option Nat} {k : Nat} (g : w.grownBy y r) (g2 : y.grownBy z (some k)) (hk : w.heap.size ≤ k) : w.grownBy z r :=
  ⟨g2.os.trans g.os, g2.tape.trans g.tape, g2.output.trans g.output, Nat.le_trans g.size g2.size, fun q hq hr => by rw [g2.block q (Nat.lt_of_lt_of_le hq g.size) (fun e => by cases e; omega), g.block q hq hr]⟩
/-- One block of w was written, others are new. -/
structure Gr (w : World) (r : Nat) (x : World) : Prop where
  g : w.grownBy x (some r)
theorem Gr.below {w x y : World} {r : Nat} (h : Gr w r x) (b : Below x.heap.size x y) : Gr w r y := ⟨grown_trans h.g (below_grown b _)⟩
theorem Gr.drew {w x : World} {r : Nat} (h : Gr w r x) : Gr w r x.drew := ⟨grown_drew h.g⟩
theorem Gr.new {w x y : World} {r k : Nat} (h : Gr w r x) (g : x.grownBy y (some k)) (hk : w.heap.size ≤ k) : Gr w r y := ⟨grown_newR h.g g hk⟩
/-- Two blocks of w were written, others are new. -/
structure Gr2 (w : World) (r eb : Nat) (x : World) : Prop where
  os : x.os = w.os
  tape : x.tape = w.tape
  output : x.output = w.output
  size : w.heap.size ≤ x.heap.size
  block : ∀ k, k < w.heap.size → k ≠ r → k ≠ eb → x.heap[k]? = w.heap[k]?
theorem Gr2.step {w x y : World} {r eb : Nat} {k : Option Nat} (h : Gr2 w r eb x) (g : x.grownBy y k) (hk : ∀ q, k = some q → q = r ∨ q = eb ∨ w.heap.size ≤ q) : Gr2 w r eb y :=
  ⟨g.os.trans h.os, g.tape.trans h.tape, g.output.trans h.output, Nat.le_trans h.size g.size, fun q hq h1 h2 => by
    rw [g.block q (Nat.lt_of_lt_of_le hq h.size) (fun e => by rcases hk q e.symm with e | e | e <;> omega), h.block q hq h1 h2]⟩
theorem Gr2.refl (w : World) (r eb : Nat) : Gr2 w r eb w := ⟨rfl, rfl, rfl, Nat.le_refl _, fun _ _ _ _ => rfl⟩
theorem Gr2.below {w x y : World} {r eb : Nat} (h : Gr2 w r eb x) (b : Below x.heap.size x y) : Gr2 w r eb y := h.step (below_grown b none) (fun q e => by cases e)
theorem Gr2.drew {w x : World} {r eb : Nat} (h : Gr2 w r eb x) : Gr2 w r eb x.drew := h.below (below_drewN (Below.refl _ _) 1)
theorem Gr2.new {w x y : World} {r eb k : Nat} (h : Gr2 w r eb x) (g : x.grownBy y (some k)) (hk : w.heap.size ≤ k) : Gr2 w r eb y := h.step g (fun q e => by cases e; exact .inr (.inr hk))
theorem Gr2.low {w x : World} {r eb base : Nat} (h : Gr2 w r eb x) (hr : base ≤ r) (he : base ≤ eb) (hb : base ≤ w.heap.size) : Below base w x :=
  ⟨h.os, h.tape, h.output, h.size, fun k hk => h.block k (by omega) (by omega) (by omega)⟩
theorem Gr2.split {w x : World} {r eb : Nat} {cs cs' : Array Value} {t : TypeId} (h : Gr2 w r eb x) (hb : Blk w eb cs t) (hx : Blk x eb cs' t) : ∃ w1, w.grownBy w1 (some r) ∧ w1.grownBy x (some eb) ∧ Blk w1 eb cs t := by
  have g := grown_row x eb cs
  have hk := hx.setRow cs
  have hs : (x.setRow eb cs).heap.size = x.heap.size := by
    have e := hx
    unfold Blk at e
    simp [World.setRow, e]
  refine ⟨x.setRow eb cs, ⟨g.os.trans h.os, g.tape.trans h.tape, g.output.trans h.output, Nat.le_trans h.size g.size, fun q hq h1 => ?_⟩, ⟨g.os.symm, g.tape.symm, g.output.symm, Nat.le_of_eq hs, fun q hq h1 => (g.block q (by rw [← hs]; exact hq) h1).symm⟩, hk⟩
  by_cases e : q = eb
  · subst e
    exact hk.trans hb.symm
  · rw [g.block q (Nat.lt_of_lt_of_le hq h.size) (by simpa using e), h.block q hq (by simpa using h1) e]
def EraD.took (E : EraD) (i : Nat) (l : List Sd) : EraD := { E with apps := E.apps.set i (some l) }
def EraD.said (E : EraD) (k : Int) : EraD := { E with sn := k }
theorem Nodup.at_ne {l : List (Option Nat)} (h : (l.filterMap id).Nodup) {i j a b : Nat} (h1 : l[i]? = some (some a)) (h2 : l[j]? = some (some b)) (hij : i ≠ j) : a ≠ b := by
  intro e
  subst e
  induction l generalizing i j with
  | nil => simp at h1
  | cons x l ih =>
    cases x with
    | none =>
      rw [List.filterMap_cons_none rfl] at h
      cases i with
      | zero => simp at h1
      | succ i => cases j with
        | zero => simp at h2
        | succ j => exact ih h (i := i) (j := j) (by simpa using h1) (by omega) (by simpa using h2)
    | some x =>
      rw [List.filterMap_cons_some (f := id) (b := x) rfl, List.nodup_cons] at h
      cases i with
      | zero =>
        cases j with
        | zero => exact hij rfl
        | succ j =>
          have e : x = a := by simpa using h1
          subst e
          exact h.1 (List.mem_filterMap.2 ⟨some x, List.mem_of_getElem? (by simpa using h2), rfl⟩)
      | succ i =>
        cases j with
        | zero =>
          have e : x = a := by simpa using h2
          subst e
          exact h.1 (List.mem_filterMap.2 ⟨some x, List.mem_of_getElem? (by simpa using h1), rfl⟩)
        | succ j => exact ih h.2 (i := i) (j := j) (by simpa using h1) (by omega) (by simpa using h2)
theorem RowO.otherRow {w w' : World} {base r B : Nat} {o : Option Nat} {q : Option (List Sd)} {l : List Sd} (h : RowO w base o q) (g : w.grownBy w' (some r)) (hR : RowAt w r B l) (hne : o ≠ some r) : RowO w' base o q := by
  cases o <;> cases q <;> first | exact h | exact ⟨h.1.otherRow g hR (fun e => hne (by rw [e])), h.2⟩
section
variable {w w' : World} {base eb r B i : Nat} {M : EraM} {E : EraD} {l l2 : List Sd}
theorem EraIs.rowAt (h : EraIs w base eb M E) (hr : M.rs[i]? = some (some r)) (hl : E.apps[i]? = some (some l)) : RowAt w r 8 l ∧ base ≤ r := h.rows i _ _ hr hl
theorem EraIs.took (h : EraIs w base eb M E) (hr : M.rs[i]? = some (some r)) (hl : E.apps[i]? = some (some l)) (g : w.grownBy w' (some r)) (hR : RowAt w' r 8 l2) : EraIs w' base eb M (E.took i l2) := by
  have h0 := (h.rowAt hr hl).1
  obtain ⟨v, hv⟩ := h0.slot
  have hnd := List.nodup_cons.1 h.dist
  refine ⟨h.blk.grown g (fun e => blk_ne h.blk hv (by decide) (Option.some.inj e)), h.hb, h.tree.other g hv (by decide) (by decide) (by decide), h.keys.other g hv (by decide), h.init.otherRow g h0 (fun e => hnd.1 (e ▸ List.mem_filterMap.2 ⟨some r, List.mem_of_getElem? hr, rfl⟩)), h.hir, h.av.other g hv (by decide), by rw [h.la]; simp [EraD.took], fun k o q e1 e2 => ?_, h.dist⟩
  by_cases hk : k = i
  · subst hk
    rw [hr] at e1
    cases e1
    have hlt := (List.getElem?_eq_some_iff.1 hl).1
    simp only [EraD.took] at e2
    rw [List.getElem?_set_self hlt] at e2
    cases e2
    exact ⟨hR, (h.rowAt hr hl).2⟩
  · simp only [EraD.took] at e2
    rw [List.getElem?_set_ne (Ne.symm hk)] at e2
    refine (h.rows k o q e1 e2).otherRow g h0 (fun e => ?_)
    subst e
    exact Nodup.at_ne hnd.2 e1 hr hk rfl
/-- Another era's row is written. -/
theorem EraIs.otherRow (h : EraIs w base eb M E) (g : w.grownBy w' (some r)) (hR : RowAt w r B l) (hne : r ∉ rowsOf (eb, M)) : EraIs w' base eb M E := by
  obtain ⟨v, hv⟩ := hR.slot
  simp only [rowsOf, List.mem_cons, not_or] at hne
  exact ⟨h.blk.grown g (fun e => hne.1 (Option.some.inj e).symm), h.hb, h.tree.other g hv (by decide) (by decide) (by decide), h.keys.other g hv (by decide), h.init.otherRow g hR (fun e => hne.2.1 e.symm), h.hir, h.av.other g hv (by decide), h.la, fun k o q e1 e2 => (h.rows k o q e1 e2).otherRow g hR (fun e => hne.2.2 (by subst e; exact List.mem_filterMap.2 ⟨some r, List.mem_of_getElem? e1, rfl⟩)), h.dist⟩
theorem eraC_0 (M : EraM) (E : EraD) : ∃ u, (eraC M E).toArray[0]? = some u ∧ ∀ n, u ≠ .int .i64 n := era_h0 ..
/-- Its own block is written: what it has said. -/
theorem EraIs.said (h : EraIs w base eb M E) (g : w.grownBy w' (some eb)) {k : Int} (hb : Blk w' eb ((eraC M E).toArray.setIfInBounds 168 (.int .i64 k)) 57) : EraIs w' base eb M (E.said k) := by
  have h0 := eraC_0 M E
  rw [eraC, era_setS] at hb
  exact ⟨hb, h.hb, h.tree.other g h.blk (by decide) (by decide) (by decide), h.keys.other g h.blk (by decide), h.init.other g h.blk h0, h.hir, h.av.other g h.blk (by decide), h.la, fun k o q e1 e2 => (h.rows k o q e1 e2).otherT g h.blk h0, h.dist⟩
theorem EraIs.sn (h : EraIs w base eb M E) : w.cell? ⟨eb, 168, none⟩ = some (.int .i64 E.sn) := h.blk.cell 168 _ (era_at _ _ _ _ _ _ _ _ _ _ 5 _ rfl)
theorem EraIs.apps (h : EraIs w base eb M E) : w.cell? ⟨eb, 167, none⟩ = some (.slice M.ao M.rs.length M.aac) := h.blk.cell 167 _ (era_at _ _ _ _ _ _ _ _ _ _ 4 _ rfl)
theorem EraIs.dep (h : EraIs w base eb M E) : w.cell? ⟨eb, 64, none⟩ = some (.int .i64 E.f.dep) := by
  refine h.blk.cell 64 _ ?_
  rw [List.getElem?_toArray, eraC, eraCells, List.getElem?_append_left (by rw [FrA.cells_len]; omega)]
  exact fr_dep _ _ _
theorem EraIs.id (h : EraIs w base eb M E) : w.rangeAt eb 0 (E.f.id.map bv) := fr_id _ _ _ (era_fr _ _ _ _ _ _ _ _ _ _ (blk_rangeP h.blk))
theorem EraIs.rowPtr (h : EraIs w base eb M E) (hr : M.rs[i]? = some (some r)) : ∃ g, M.ao = some ⟨g, 0, none⟩ ∧ w.cell? ⟨g, i, none⟩ = some (.pointer (some ⟨r, 0, none⟩)) := by
  obtain ⟨g, o, e, hrg⟩ := (ROwn.at h.av).range ptrCells_len i _ hr
  have hlt := (List.getElem?_eq_some_iff.1 hr).1
  obtain ⟨g2, e2⟩ := ROwn.addr h.av (by omega)
  rw [e2] at e
  cases e
  refine ⟨g, e2, ?_⟩
  have := hrg 0 _ rfl
  simpa [ptrV] using this
end
end Go.Proofs.YtjlpdbaknhbgdaaGreat
