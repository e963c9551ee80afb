/-
  Eras: their cells, how they lie in memory. The document's era: its cells, the rows of its apps. book: Name of no book. era.Place.
-/
import Derived.Test.YtjlpdbaknhbgdaaGreatKeep0
import Derived.Test.YtjlpdbaknhbgdaaGreatQBase
import Derived.Test.YtjlpdbaknhbgdaaGreatQPprL
import Derived.Test.YtjlpdbaknhbgdaaGreatQChat
import Derived.Test.YtjlpdbaknhbgdaaGreatQPpr
import Derived.Test.YtjlpdbaknhbgdaaGreatQKeys
import Derived.Test.YtjlpdbaknhbgdaaGreatTreeCopy
import Derived.WalkLawsBesides
import Derived.Outline
import Derived.Handy
import Derived.Deep.RegionHeld
import Derived.Laws.ResultCell
set_option linter.unusedSimpArgs false
set_option linter.unusedVariables false
namespace Go.Proofs.YtjlpdbaknhbgdaaGreat
open Go.RowKit

/-- A frame, but for its tree. -/
structure FrA where
  id : List UInt8
  par : List UInt8
  dep : Int
  said : List UInt8
  times : List Int
  hi : id.length = 32
  hp : par.length = 32
  hs : said.length = 32
  ht : times.length = 64
def intC (x : Int) : Value := .int .i64 x
def FrA.cells (f : FrA) (lv pv : Value) : List Value := f.id.map bv ++ (f.par.map bv ++ (.int .i64 f.dep :: lv :: pv :: (f.said.map bv ++ f.times.map intC)))
theorem FrA.cells_len (f : FrA) (lv pv : Value) : (f.cells lv pv).length = 163 := by simp [FrA.cells, f.hi, f.hp, f.hs, f.ht]
def eraCells (f : FrA) (lv pv : Value) (me : Int) (kv iv : Value) (fk : Int) (av : Value) (sn : Int) (ex : List UInt8) : List Value :=
  f.cells lv pv ++ (.int .i64 me :: kv :: iv :: .int .i64 fk :: av :: .int .i64 sn :: ex.map bv)
theorem eraCells_len (f : FrA) (lv pv : Value) (me : Int) (kv iv : Value) (fk : Int) (av : Value) (sn : Int) (ex : List UInt8) (h : ex.length = 32) : (eraCells f lv pv me kv iv fk av sn ex).length = 201 := by simp [eraCells, f.cells_len, h]
def zeroF : FrA := ⟨z32L, z32L, 0, z32L, List.replicate 64 0, rfl, rfl, rfl, rfl⟩
def zeroE : List Value := eraCells zeroF (.slice none 0 0) (.slice none 0 0) 0 (.slice none 0 0) (.pointer none) 0 (.slice none 0 0) 0 z32L
theorem Tryz.zeroEra : (Tryz.prog.info? 57).bind (·.zero) = some (.agg zeroE.toArray) := by kernel_rfl
theorem Tryz.sizeFrame : (Tryz.prog.info? 53).map (·.size) = some 163 := by kernel_rfl
section
variable (f : FrA) (lv pv : Value)
theorem fr_splitT : f.cells lv pv = (f.id.map bv ++ (f.par.map bv ++ [.int .i64 f.dep])) ++ ([lv, pv] ++ (f.said.map bv ++ f.times.map intC)) := by simp [FrA.cells]
theorem fr_preT : (f.id.map bv ++ (f.par.map bv ++ [Value.int .i64 f.dep])).length = 65 := by simp [f.hi, f.hp]
theorem fr_dep : (f.cells lv pv)[64]? = some (.int .i64 f.dep) := by
  rw [FrA.cells, List.getElem?_append_right (by simp [f.hi]), List.getElem?_append_right (by simp [f.hi, f.hp])]; simp [f.hi, f.hp]
theorem fr_lv : (f.cells lv pv)[65]? = some lv := by
  rw [FrA.cells, List.getElem?_append_right (by simp [f.hi]), List.getElem?_append_right (by simp [f.hi, f.hp])]; simp [f.hi, f.hp]
theorem fr_time (j : Nat) (x : Int) (h : f.times[j]? = some x) : (f.cells lv pv)[99 + j]? = some (.int .i64 x) := by
  rw [FrA.cells, List.getElem?_append_right (by simp [f.hi]; omega), List.getElem?_append_right (by simp [f.hi, f.hp]; omega)]
  simp only [List.length_map, f.hi, f.hp]
  rw [show 99 + j - 32 - 32 = (32 + j) + 3 by omega, List.getElem?_cons_succ, List.getElem?_cons_succ, List.getElem?_cons_succ, List.getElem?_append_right (by simp [f.hs])]
  simp [f.hs, h, intC]
theorem fr_tree {w : World} {g o : Nat} (h : w.rangeAt g o (f.cells lv pv)) : w.rangeAt g (o + 65) [lv, pv] := range_mid (by rw [← fr_splitT]; exact h) (fr_preT f)
theorem fr_id {w : World} {g o : Nat} (h : w.rangeAt g o (f.cells lv pv)) : w.rangeAt g o (f.id.map bv) := by
  have := range_mid (A := []) h rfl
  exact this
variable (me : Int) (kv iv : Value) (fk : Int) (av : Value) (sn : Int) (ex : List UInt8)
theorem era_fr {w : World} {g o : Nat} (h : w.rangeAt g o (eraCells f lv pv me kv iv fk av sn ex)) : w.rangeAt g o (f.cells lv pv) := by
  have := range_mid (A := []) h rfl
  exact this
theorem era_at (k : Nat) (v : Value) (hv : (Value.int .i64 me :: kv :: iv :: .int .i64 fk :: av :: .int .i64 sn :: ex.map bv)[k]? = some v) : (eraCells f lv pv me kv iv fk av sn ex).toArray[163 + k]? = some v := by
  rw [List.getElem?_toArray, eraCells, List.getElem?_append_right (by rw [f.cells_len]; omega), f.cells_len, Nat.add_sub_cancel_left]; exact hv
theorem era_set (k : Nat) (v : Value) (l : List Value) (hl : (Value.int .i64 me :: kv :: iv :: .int .i64 fk :: av :: .int .i64 sn :: ex.map bv).set k v = l) : (eraCells f lv pv me kv iv fk av sn ex).toArray.setIfInBounds (163 + k) v = (f.cells lv pv ++ l).toArray := by
  rw [List.setIfInBounds_toArray, eraCells, List.set_append_right _ _ (by rw [f.cells_len]; omega), f.cells_len, Nat.add_sub_cancel_left, hl]
theorem era_setI (v : Value) : (eraCells f lv pv me kv iv fk av sn ex).toArray.setIfInBounds 165 v = (eraCells f lv pv me kv v fk av sn ex).toArray := era_set f lv pv me kv iv fk av sn ex 2 v _ rfl
theorem era_setA (v : Value) : (eraCells f lv pv me kv iv fk av sn ex).toArray.setIfInBounds 167 v = (eraCells f lv pv me kv iv fk v sn ex).toArray := era_set f lv pv me kv iv fk av sn ex 4 v _ rfl
theorem era_setS (x : Int) : (eraCells f lv pv me kv iv fk av sn ex).toArray.setIfInBounds 168 (.int .i64 x) = (eraCells f lv pv me kv iv fk av x ex).toArray := era_set f lv pv me kv iv fk av sn ex 5 _ _ rfl
theorem era_splitT : eraCells f lv pv me kv iv fk av sn ex = (f.id.map bv ++ (f.par.map bv ++ [.int .i64 f.dep])) ++ ([lv, pv] ++ (f.said.map bv ++ f.times.map intC ++ (.int .i64 me :: kv :: iv :: .int .i64 fk :: av :: .int .i64 sn :: ex.map bv))) := by
  rw [eraCells, fr_splitT]; simp
end
theorem Tryz.builtEra (f : FrA) (lv pv : Value) (me : Int) (kv : Value) (ex : List UInt8) (hk : kv.cells = #[kv]) (hx : ex.length = 32) :
    Tryz.prog.built 57 [(0, .agg (f.cells lv pv).toArray), (1, .int .i64 me), (2, kv), (7, .agg (ex.map bv).toArray)] = some (eraCells f lv pv me kv (.pointer none) 0 (.slice none 0 0) 0 ex).toArray := by
  rw [built_struct Tryz.zeroEra Tryz.underlying57 (places := [(0, 163), (163, 1), (164, 1), (165, 1), (166, 1), (167, 1), (168, 1), (169, 32)]) (by kernel_rfl), Value.cells]
  refine (fill_midV (A := []) (B := zeroF.cells (.slice none 0 0) (.slice none 0 0)) (C := [.int .i64 0, .slice none 0 0, .pointer none, .int .i64 0, .slice none 0 0, .int .i64 0] ++ z32L.map bv) (v := f.cells lv pv) rfl (by rfl) (by rw [f.cells_len]; rfl) (by rw [f.cells_len]; exact zeroF.cells_len _ _)).trans ?_
  refine (fill_midV (A := f.cells lv pv) (B := [.int .i64 0]) (C := [.slice none 0 0, .pointer none, .int .i64 0, .slice none 0 0, .int .i64 0] ++ z32L.map bv) (v := [.int .i64 me]) rfl (by simp) (by rw [f.cells_len]; rfl) rfl).trans ?_
  refine (fill_midV (A := f.cells lv pv ++ [.int .i64 me]) (B := [.slice none 0 0]) (C := [.pointer none, .int .i64 0, .slice none 0 0, .int .i64 0] ++ z32L.map bv) (v := [kv]) hk (by simp) (by rw [List.length_append, f.cells_len]; rfl) rfl).trans ?_
  refine (fill_midV (A := f.cells lv pv ++ [.int .i64 me, kv, .pointer none, .int .i64 0, .slice none 0 0, .int .i64 0]) (B := z32L.map bv) (C := []) (v := ex.map bv) rfl (by simp) (by rw [List.length_append, f.cells_len, List.length_map, hx]; rfl) (by rw [List.length_map, List.length_map, hx]; rfl)).trans ?_
  simp [Instr.fill, eraCells]
def ptrV : Option Nat → Value
  | none => .pointer none
  | some r => .pointer (some ⟨r, 0, none⟩)
def ptrCells (o : Option Nat) : List Value := [ptrV o]
theorem ptrCells_len (o : Option Nat) : (ptrCells o).length = 1 := rfl
theorem ptrCells_one (o : Option Nat) : ∀ u ∈ ptrCells o, u.oneCell' = true := by
  intro u hu
  rw [ptrCells, List.mem_singleton] at hu
  subst hu
  cases o <;> rfl
/-- An era, as plain data. -/
structure EraD where
  f : FrA
  T : TreeT
  me : Int
  keys : List KeyA
  init : List Sd
  fk : Int
  apps : List (Option (List Sd))
  sn : Int
  ex : List UInt8
  hx : ex.length = 32
/-- Where an era's parts lie. -/
structure EraM where
  lo : Option Addr
  ac : Nat
  po : Option Addr
  pc : Nat
  lvs : List Value
  ko : Option Addr
  kc : Nat
  ir : Nat
  ao : Option Addr
  aac : Nat
  rs : List (Option Nat)
def EraM.lv (M : EraM) (E : EraD) : Value := .slice M.lo E.T.leaves.length M.ac
def EraM.pv (M : EraM) (E : EraD) : Value := .slice M.po E.T.pars.length M.pc
def eraC (M : EraM) (E : EraD) : List Value := eraCells E.f (M.lv E) (M.pv E) E.me (.slice M.ko E.keys.length M.kc) (.pointer (some ⟨M.ir, 0, none⟩)) E.fk (.slice M.ao M.rs.length M.aac) E.sn E.ex
/-- A row that may be none. -/
def RowO (w : World) (base : Nat) : Option Nat → Option (List Sd) → Prop
  | none, none => True
  | some r, some l => RowAt w r 8 l ∧ base ≤ r
  | _, _ => False
structure EraIs (w : World) (base eb : Nat) (M : EraM) (E : EraD) : Prop where
  blk : Blk w eb (eraC M E).toArray 57
  hb : base ≤ eb
  tree : TreeOwn w base M.lo E.T.leaves.length M.ac M.po E.T.pars.length M.pc M.lvs E.T
  keys : ROwn KeyA.cells 33 w base 142 (.slice M.ko E.keys.length M.kc) E.keys
  init : RowAt w M.ir 32 E.init
  hir : base ≤ M.ir
  av : ROwn ptrCells 1 w base 54 (.slice M.ao M.rs.length M.aac) M.rs
  la : M.rs.length = E.apps.length
  rows : ∀ (i : Nat) (o : Option Nat) (q : Option (List Sd)), M.rs[i]? = some o → E.apps[i]? = some q → RowO w base o q
  dist : (M.ir :: M.rs.filterMap id).Nodup
theorem RowO.below {w w' : World} {base : Nat} {o : Option Nat} {q : Option (List Sd)} (h : RowO w base o q) (b : Below w.heap.size w w') : RowO w' base o q := by
  cases o <;> cases q <;> first | exact h | exact ⟨h.1.below b, h.2⟩
theorem EraIs.below {w w' : World} {base eb : Nat} {M : EraM} {E : EraD} (h : EraIs w base eb M E) (b : Below w.heap.size w w') : EraIs w' base eb M E :=
  ⟨h.blk.below b h.blk.lt, h.hb, h.tree.below b, h.keys.below b, h.init.below b, h.hir, h.av.below b, h.la, fun i o q h1 h2 => (h.rows i o q h1 h2).below b, h.dist⟩
theorem EraIs.drew {w : World} {base eb : Nat} {M : EraM} {E : EraD} (h : EraIs w base eb M E) : EraIs w.drew base eb M E := h.below (below_drewN (Below.refl _ _) 1)
end Go.Proofs.YtjlpdbaknhbgdaaGreat
set_option linter.unusedSimpArgs false
set_option linter.unusedVariables false
namespace Go.Proofs.YtjlpdbaknhbgdaaGreat
open Go.RowKit

/-- A row, as the document has it: its root, its bits, what is taken. -/
structure RRow where
  root : List UInt8
  bits : Nat
  tk : List Int
  hr : root.length = 32
def rrowC (x : RRow × Value) : List Value := rcells x.1.root x.1.bits (nrmV x.2)
theorem rrowC_len (x : RRow × Value) : (rrowC x).length = 34 := rcells_len _ _ _ x.1.hr
theorem rrowC_one (x : RRow × Value) : ∀ u ∈ rrowC x, u.oneCell' = true := by
  intro u hu
  rw [rrowC, rcells] at hu
  rcases List.mem_append.1 hu with h | h
  · obtain ⟨b, _, rfl⟩ := List.mem_map.1 h; rfl
  · simp at h
    rcases h with rfl | rfl
    · rfl
    · exact nrmV_one _
def reraCells (f : FrA) (lv pv : Value) (me : Int) (kv : Value) (ir : List UInt8) (ib : Nat) (iv : Value) (fk : Int) (av : Value) (sn : Int) (ex ep : List UInt8) : List Value :=
  f.cells lv pv ++ (.int .i64 me :: kv :: (rcells ir ib iv ++ (.int .i64 fk :: av :: .int .i64 sn :: (ex.map bv ++ ep.map bv))))
theorem reraCells_len (f : FrA) (lv pv : Value) (me : Int) (kv : Value) (ir : List UInt8) (ib : Nat) (iv : Value) (fk : Int) (av : Value) (sn : Int) (ex ep : List UInt8) (h1 : ir.length = 32) (h2 : ex.length = 32) (h3 : ep.length = 32) : (reraCells f lv pv me kv ir ib iv fk av sn ex ep).length = 266 := by
  simp [reraCells, f.cells_len, rcells_len _ _ _ h1, h2, h3]
def zeroRE : List Value := reraCells zeroF (.slice none 0 0) (.slice none 0 0) 0 (.slice none 0 0) z32L 0 (.slice none 0 0) 0 (.slice none 0 0) 0 z32L z32L
def rappsOf (Ap : List UInt8) (h : Ap.length = 32) (n : Nat) : List RRow := (List.range n).map fun i => ⟨appT Ap i, 8, [], appT_len _ _⟩
theorem Tryz.sizeREra : (Tryz.prog.info? 45).map (·.size) = some 266 := by kernel_rfl
theorem Tryz.sizeRFrame : (Tryz.prog.info? 39).map (·.size) = some 163 := by kernel_rfl
section
variable (f : FrA) (lv pv : Value) (me : Int) (kv : Value) (ir : List UInt8) (ib : Nat) (iv : Value) (fk : Int) (av : Value) (sn : Int) (ex ep : List UInt8)
theorem rer_splitT : reraCells f lv pv me kv ir ib iv fk av sn ex ep = (f.id.map bv ++ (f.par.map bv ++ [.int .i64 f.dep])) ++ ([lv, pv] ++ (f.said.map bv ++ f.times.map intC ++ (.int .i64 me :: kv :: (rcells ir ib iv ++ (.int .i64 fk :: av :: .int .i64 sn :: (ex.map bv ++ ep.map bv)))))) := by
  rw [reraCells, fr_splitT]; simp
theorem rer_splitI : reraCells f lv pv me kv ir ib iv fk av sn ex ep = (f.cells lv pv ++ [.int .i64 me, kv]) ++ (rcells ir ib iv ++ (.int .i64 fk :: av :: .int .i64 sn :: (ex.map bv ++ ep.map bv))) := by
  simp [reraCells]
theorem rer_preI : (f.cells lv pv ++ [Value.int .i64 me, kv]).length = 165 := by simp [f.cells_len]
theorem rer_splitA (h1 : ir.length = 32) : reraCells f lv pv me kv ir ib iv fk av sn ex ep = (f.cells lv pv ++ (.int .i64 me :: kv :: (rcells ir ib iv ++ [.int .i64 fk]))) ++ (av :: (.int .i64 sn :: (ex.map bv ++ ep.map bv))) := by
  simp [reraCells]
theorem rer_preA (h1 : ir.length = 32) : (f.cells lv pv ++ (Value.int .i64 me :: kv :: (rcells ir ib iv ++ [.int .i64 fk]))).length = 200 := by simp [f.cells_len, rcells_len _ _ _ h1]
theorem rer_cellA (h1 : ir.length = 32) : (reraCells f lv pv me kv ir ib iv fk av sn ex ep).toArray[200]? = some av := by
  rw [List.getElem?_toArray, rer_splitA _ _ _ _ _ _ _ _ _ _ _ _ _ h1, List.getElem?_append_right (by rw [rer_preA _ _ _ _ _ _ _ _ _ h1]; omega), rer_preA _ _ _ _ _ _ _ _ _ h1]; rfl
theorem rer_setA (h1 : ir.length = 32) (v : Value) : (reraCells f lv pv me kv ir ib iv fk av sn ex ep).toArray.setIfInBounds 200 v = (reraCells f lv pv me kv ir ib iv fk v sn ex ep).toArray := by
  rw [List.setIfInBounds_toArray, rer_splitA _ _ _ _ _ _ _ _ _ _ _ _ _ h1, rer_splitA _ _ _ _ _ _ _ _ _ _ _ _ _ h1, List.set_append_right _ _ (by rw [rer_preA _ _ _ _ _ _ _ _ _ h1]; omega), rer_preA _ _ _ _ _ _ _ _ _ h1]; rfl
end
theorem reraCells_all (f : FrA) (lv pv : Value) (me : Int) (kv : Value) (ir : List UInt8) (ib : Nat) (iv : Value) (fk : Int) (av : Value) (sn : Int) (ex ep : List UInt8) (hl : lv.oneCell' = true) (hp : pv.oneCell' = true) (hk : kv.oneCell' = true) (hi : iv.oneCell' = true) (ha : av.oneCell' = true) : (reraCells f lv pv me kv ir ib iv fk av sn ex ep).toArray.all (·.oneCell') = true := by
  rw [List.all_toArray, List.all_eq_true]
  intro u hu
  simp only [reraCells, FrA.cells, rcells, List.mem_append, List.mem_cons, List.mem_map, List.not_mem_nil, or_false] at hu
  rcases hu with (⟨b, _, rfl⟩ | ⟨b, _, rfl⟩ | rfl | rfl | rfl | ⟨b, _, rfl⟩ | ⟨b, _, rfl⟩) | rfl | rfl | (⟨b, _, rfl⟩ | rfl | rfl) | rfl | rfl | rfl | ⟨b, _, rfl⟩ | ⟨b, _, rfl⟩ <;> first | rfl | assumption
theorem Tryz.zeroREra : (Tryz.prog.info? 45).bind (·.zero) = some (.agg zeroRE.toArray) := by kernel_rfl
theorem Tryz.builtREra (f : FrA) (lv pv : Value) (me : Int) (kv : Value) (ex ep : List UInt8) (hk : kv.cells = #[kv]) (hx : ex.length = 32) (he : ep.length = 32) :
    Tryz.prog.built 45 [(0, .agg (f.cells lv pv).toArray), (1, .int .i64 me), (2, kv), (7, .agg (ex.map bv).toArray), (8, .agg (ep.map bv).toArray)] = some (reraCells f lv pv me kv z32L 0 (.slice none 0 0) 0 (.slice none 0 0) 0 ex ep).toArray := by
  rw [built_struct Tryz.zeroREra Tryz.underlying45 (places := [(0, 163), (163, 1), (164, 1), (165, 34), (199, 1), (200, 1), (201, 1), (202, 32), (234, 32)]) (by kernel_rfl), Value.cells]
  refine (fill_midV (A := []) (B := zeroF.cells (.slice none 0 0) (.slice none 0 0)) (C := .int .i64 0 :: .slice none 0 0 :: (rcells z32L 0 (.slice none 0 0) ++ (.int .i64 0 :: .slice none 0 0 :: .int .i64 0 :: (z32L.map bv ++ z32L.map bv)))) (v := f.cells lv pv) rfl (by rfl) (by rw [f.cells_len]; rfl) (by rw [f.cells_len]; exact zeroF.cells_len _ _)).trans ?_
  refine (fill_midV (A := f.cells lv pv) (B := [.int .i64 0]) (C := .slice none 0 0 :: (rcells z32L 0 (.slice none 0 0) ++ (.int .i64 0 :: .slice none 0 0 :: .int .i64 0 :: (z32L.map bv ++ z32L.map bv)))) (v := [.int .i64 me]) rfl (by simp) (by rw [f.cells_len]; rfl) rfl).trans ?_
  refine (fill_midV (A := f.cells lv pv ++ [.int .i64 me]) (B := [.slice none 0 0]) (C := rcells z32L 0 (.slice none 0 0) ++ (.int .i64 0 :: .slice none 0 0 :: .int .i64 0 :: (z32L.map bv ++ z32L.map bv))) (v := [kv]) hk (by simp) (by rw [List.length_append, f.cells_len]; rfl) rfl).trans ?_
  refine (fill_midV (A := f.cells lv pv ++ (.int .i64 me :: kv :: (rcells z32L 0 (.slice none 0 0) ++ [.int .i64 0, .slice none 0 0, .int .i64 0]))) (B := z32L.map bv) (C := z32L.map bv) (v := ex.map bv) rfl (by simp) (by rw [List.length_append, f.cells_len, List.length_map, hx]; rfl) (by rw [List.length_map, List.length_map, hx]; rfl)).trans ?_
  refine (fill_midV (A := f.cells lv pv ++ (.int .i64 me :: kv :: (rcells z32L 0 (.slice none 0 0) ++ (.int .i64 0 :: .slice none 0 0 :: .int .i64 0 :: ex.map bv)))) (B := z32L.map bv) (C := []) (v := ep.map bv) rfl (by simp) (by simp [f.cells_len, rcells, hx, he]; rfl) (by rw [List.length_map, List.length_map, he]; rfl)).trans ?_
  simp [Instr.fill, reraCells]
/-- The document's era, as plain data; where its parts lie. -/
structure RMemD where
  f : FrA
  T : TreeT
  me : Int
  ir : List UInt8
  apps : List RRow
  sn : Int
  ex : List UInt8
  ep : List UInt8
  hi : ir.length = 32
  hx : ex.length = 32
  he : ep.length = 32
structure RMemM where
  lo : Option Addr
  ac : Nat
  po : Option Addr
  pc : Nat
  cur : List Value
  ko : Option Addr
  kc : Nat
  ao : Option Addr
  c : Nat
  vs : List Value
def rerC (M : RMemM) (D : RMemD) : List Value := reraCells D.f (.slice M.lo D.T.leaves.length M.ac) (.slice M.po D.T.pars.length M.pc) D.me (.slice M.ko 0 M.kc) D.ir 32 (.slice none 0 0) 0 (.slice M.ao D.apps.length M.c) D.sn D.ex D.ep
theorem rerC_len (M : RMemM) (D : RMemD) : (rerC M D).length = 266 := reraCells_len _ _ _ _ _ _ _ _ _ _ _ _ _ D.hi D.hx D.he
theorem rerC_all (M : RMemM) (D : RMemD) : (rerC M D).toArray.all (·.oneCell') = true := reraCells_all _ _ _ _ _ _ _ _ _ _ _ _ _ rfl rfl rfl rfl rfl
structure RMemIs (w : World) (base : Nat) (M : RMemM) (D : RMemD) : Prop where
  tree : TreeOwn w base M.lo D.T.leaves.length M.ac M.po D.T.pars.length M.pc M.cur D.T
  keys : ROwn KeyA.cells 33 w base 142 (.slice M.ko 0 M.kc) []
  av : ROwn rrowC 34 w base 42 (.slice M.ao D.apps.length M.c) (D.apps.zip M.vs)
  lv : M.vs.length = D.apps.length
  tk : ∀ (i : Nat) (q : RRow) (u : Value), D.apps[i]? = some q → M.vs[i]? = some u → IntsO w base u q.tk
theorem RMemIs.below {w w' : World} {base : Nat} {M : RMemM} {D : RMemD} (h : RMemIs w base M D) (b : Below w.heap.size w w') : RMemIs w' base M D :=
  ⟨h.tree.below b, h.keys.below b, h.av.below b, h.lv, fun i q u h1 h2 => (h.tk i q u h1 h2).below b⟩
theorem RMemIs.other {w w' : World} {base r : Nat} {M : RMemM} {D : RMemD} {cs : Array Value} {t : TypeId} (h : RMemIs w base M D) (g : w.grownBy w' (some r)) (hr : Blk w r cs t) (h1 : 144 ≠ t) (h2 : 126 ≠ t) (h3 : 3 ≠ t) (h4 : 142 ≠ t) (h5 : 42 ≠ t) : RMemIs w' base M D :=
  ⟨h.tree.other g hr h1 h2 h3, h.keys.other g hr h4, h.av.other g hr h5, h.lv, fun i q u h6 h7 => (h.tk i q u h6 h7).other g hr h3⟩
theorem IntsO.nil (w : World) (base : Nat) : IntsO w base (.slice none 0 0) [] := ⟨none, 0, rfl, ROwn.nil _ _ _⟩
end Go.Proofs.YtjlpdbaknhbgdaaGreat
set_option linter.unusedSimpArgs false
set_option linter.unusedVariables false
namespace Go.Proofs.YtjlpdbaknhbgdaaGreat
open Go.RowKit

theorem wpList_boxZ0 {P : Program} {ops : Array Oper} {rest : List Oper} {o : Oper} {a : Act} {w : World} {Q : Exit → Act → World → Prop} (hg : o.guard = none) (t : TypeId) (x : Operand) (ho : o.op = .box t x) (cs : Array Value) (hx : a.eval x = .agg cs)
    (h : ∀ w', Below w.heap.size w w' → wpList P ops Q rest (a.put o.dst (.pointer (some ⟨w.heap.size, 0, none⟩))) w') : wpList P ops Q (o :: rest) a w := by
  refine wpList_plain hg fun K hK => ?_
  refine wp_boxZ t x ho cs hx fun g w' e _ b _ => ?_
  subst e
  exact hK _ _ (h w' b)
set_option maxRecDepth 100000 in
theorem NameNil_calls (s h : List UInt8) (hh : h.length = 32) (w : World) :
    Calls Tryz.prog 104 #[.pointer none, .string (str s), .agg (h.map bv).toArray] w fun e w' => e = .returned (.tuple #[]) ∧ Below w.heap.size w w' := by
  obtain ⟨base, hbase⟩ : ∃ base, base = w.heap.size := ⟨_, rfl⟩
  rw [← hbase]
  go_enter Tryz.func104, Tryz.ntmps104
  go_wp2_with (first | ((with_reducible show wpList _ _ _ (⟨some 5, _, _, _, _, _⟩ :: _) _ _); refine wpList_boxZ0 rfl 23 (.tmp 2) rfl (h.map bv).toArray (by rfl) ?_; intro w1 b1))
  go_returns
  exact ⟨rfl, by rw [hbase]; exact b1⟩
end Go.Proofs.YtjlpdbaknhbgdaaGreat
set_option linter.unusedSimpArgs false
set_option linter.unusedVariables false
namespace Go.Proofs.YtjlpdbaknhbgdaaGreat
open Go.RowKit

theorem era_tree {w : World} {base eb : Nat} {M : EraM} {E : EraD} (h : EraIs w base eb M E) : w.rangeAt eb 65 [M.lv E, M.pv E] := by
  have := fr_tree _ _ _ (era_fr _ _ _ _ _ _ _ _ _ _ (blk_rangeP h.blk))
  rwa [Nat.zero_add] at this
theorem EraIs.me {w : World} {base eb : Nat} {M : EraM} {E : EraD} (h : EraIs w base eb M E) : w.cell? ⟨eb, 163, none⟩ = some (.int .i64 E.me) := h.blk.cell 163 _ (era_at _ _ _ _ _ _ _ _ _ _ 0 _ rfl)
set_option maxHeartbeats 4000000 in
set_option maxRecDepth 100000 in
theorem EPlace_calls (base eb : Nat) (M : EraM) (E : EraD) (w : World) (h : EraIs w base eb M E) (hn : E.T.leaves.length ≤ 1000000) (hm : E.T.pars.length ≤ 1000000) :
    Calls Tryz.prog 23 #[.pointer (some ⟨eb, 0, none⟩)] w fun e w' => e = .returned (.int .i64 (placeT E.T E.me)) ∧ Below w.heap.size w w' := by
  have hb0 := Below.refl w.heap.size w
  have cP : ∀ y, EraIs y base eb M E → Calls Tryz.prog 71 #[.agg #[M.lv E, M.pv E], .int .i64 E.me] y fun e w' => e = .returned (.int .i64 (placeT E.T E.me)) ∧ Below y.heap.size y w' := fun y hy => Place_calls _ _ _ _ _ _ _ _ _ y hy.tree.is hn hm
  clear hn hm
  go_enter Tryz.func23, Tryz.ntmps23
  go_wp2_with fail
  refine wp_region_held_drew (S := fun x => EraIs x base eb M E ∧ Below w.heap.size w x) (by kernel_rfl) ⟨h.below (below_drewN (Below.refl _ _) 1), below_drewN hb0 1⟩ (fun hSq1 => ?_)
  refine wpAnyH_take (i := 0) (v := .pointer (some ⟨eb, 0, none⟩)) rfl (by kernel_rfl) (by kernel_rfl) (by kernel_rfl) (fun _ _ _ h => h) (Or.inl ⟨by rfl, fun x hx => by go_simp⟩) hSq1 ?_
  simp only [Act.put, List.getElem_toArray, List.getElem_cons_zero, List.getElem_cons_succ, List.setIfInBounds_toArray, List.set_cons_zero, List.set_cons_succ]
  refine wpAnyH_take (i := 1) (v := .pointer (some ⟨eb, 0, none⟩)) rfl (by kernel_rfl) (by kernel_rfl) (by kernel_rfl) (fun _ _ _ h => h) (Or.inl ⟨by rfl, fun x hx => by go_simp⟩) hSq1 ?_
  simp only [Act.put, List.getElem_toArray, List.getElem_cons_zero, List.getElem_cons_succ, List.setIfInBounds_toArray, List.set_cons_zero, List.set_cons_succ]
  refine wpAnyH_take (i := 2) (v := .pointer (some ⟨eb, 0, none⟩)) rfl (by kernel_rfl) (by kernel_rfl) (by kernel_rfl) (fun _ _ _ h => h) (Or.inl ⟨by rfl, fun x hx => by go_simp⟩) hSq1 ?_
  simp only [Act.put, List.getElem_toArray, List.getElem_cons_zero, List.getElem_cons_succ, List.setIfInBounds_toArray, List.set_cons_zero, List.set_cons_succ]
  refine wpAnyH_take (i := 3) (v := .pointer (some ⟨eb, 65, none⟩)) rfl (by kernel_rfl) (by kernel_rfl) (by kernel_rfl) (fun _ _ _ h => h) (Or.inl ⟨by rfl, fun x hx => by go_simp⟩) hSq1 ?_
  simp only [Act.put, List.getElem_toArray, List.getElem_cons_zero, List.getElem_cons_succ, List.setIfInBounds_toArray, List.set_cons_zero, List.set_cons_succ]
  refine wpAnyH_take (i := 4) rfl (by kernel_rfl) (by kernel_rfl) (by kernel_rfl) (fun _ _ _ h => h) (yieldsIf_load_mid (by rfl) 27 (.tmp 8) rfl (eb) (65) (by rfl) ([M.lv E, M.pv E]) _ (fun x hx => era_tree hx.1) Tryz.underlying27 rfl (Tryz.sizeTree)) hSq1 ?_
  simp only [Act.put, List.getElem_toArray, List.getElem_cons_zero, List.getElem_cons_succ, List.setIfInBounds_toArray, List.set_cons_zero, List.set_cons_succ]
  refine wpAnyH_take (i := 5) (v := .pointer (some ⟨eb, 0, none⟩)) rfl (by kernel_rfl) (by kernel_rfl) (by kernel_rfl) (fun _ _ _ h => h) (Or.inl ⟨by rfl, fun x hx => by go_simp⟩) hSq1 ?_
  simp only [Act.put, List.getElem_toArray, List.getElem_cons_zero, List.getElem_cons_succ, List.setIfInBounds_toArray, List.set_cons_zero, List.set_cons_succ]
  refine wpAnyH_take (i := 6) (v := .pointer (some ⟨eb, 0, none⟩)) rfl (by kernel_rfl) (by kernel_rfl) (by kernel_rfl) (fun _ _ _ h => h) (Or.inl ⟨by rfl, fun x hx => by go_simp⟩) hSq1 ?_
  simp only [Act.put, List.getElem_toArray, List.getElem_cons_zero, List.getElem_cons_succ, List.setIfInBounds_toArray, List.set_cons_zero, List.set_cons_succ]
  refine wpAnyH_take (i := 7) (v := .pointer (some ⟨eb, 163, none⟩)) rfl (by kernel_rfl) (by kernel_rfl) (by kernel_rfl) (fun _ _ _ h => h) (Or.inl ⟨by rfl, fun x hx => by go_simp⟩) hSq1 ?_
  simp only [Act.put, List.getElem_toArray, List.getElem_cons_zero, List.getElem_cons_succ, List.setIfInBounds_toArray, List.set_cons_zero, List.set_cons_succ]
  refine wpAnyH_take (i := 8) (v := .int .i64 E.me) rfl (by kernel_rfl) (by kernel_rfl) (by kernel_rfl) (fun _ _ _ h => h) (Or.inl ⟨by rfl, fun x hx => by have hc := hx.1.me; go_simp⟩) hSq1 ?_
  simp only [Act.put, List.getElem_toArray, List.getElem_cons_zero, List.getElem_cons_succ, List.setIfInBounds_toArray, List.set_cons_zero, List.set_cons_succ]
  refine wpAnyH_ready (rs := [9]) (by kernel_rfl) (by simp) ?_
  refine AllReadyH.cons rfl (fun K hK => ?_) AllReadyH.nil
  go_simp
  go_wp2_with (go_at_call 71; refine (cP _ hSq1.1).mono ?_; rintro e yq2 ⟨rfl, bq3⟩)
  refine hK.out _ _ ⟨hSq1.1.below bq3, hSq1.2.trans (bq3.mono (hSq1.2.size))⟩ (fun hSq4 => ?_)
  clear hK K hSq1 bq3
  refine wpAnyH_ready (rs := [10]) (by kernel_rfl) (by simp) ?_
  refine AllReadyH.cons rfl (fun K hK => ?_) AllReadyH.nil
  go_simp
  refine hK.out _ _ hSq4 (fun hSq5 => ?_)
  clear hK K hSq4
  refine wpAnyH_done (by kernel_rfl) ?_ _
  have hbf := hSq5.2
  go_wp2_with fail
  go_returns
  exact ⟨rfl, hbf⟩
end Go.Proofs.YtjlpdbaknhbgdaaGreat
