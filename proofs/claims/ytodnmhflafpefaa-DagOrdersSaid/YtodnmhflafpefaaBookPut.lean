/-
  book: known's closure: what is put in.
-/
import Derived.Test.YtodnmhflafpefaaBookHash
import Derived.Test.YtodnmhflafpefaaBookMaps
import Derived.Test.YtodnmhflafpefaaBookLaw
import Derived.Test.YtodnmhflafpefaaWl
set_option linter.unusedSimpArgs false
set_option linter.unusedVariables false
namespace Go.Proofs.Ytodnmhflafpefaa
open Go.RowKit

theorem wpList_lookV {P : Program} {k : TypeId} {ok : List UInt8 → Prop} {enc : List UInt8 → Value} {w : World} {ops : Array Oper} {rest : List Oper} {o : Oper} {a : Act} {Q : Exit → Act → World → Prop} (hg : o.guard = none) (mk : MKey P k ok enc) (m x : Operand) (t e : TypeId) (ho : o.op = .lookup t m x false) (ht : P.underlying t = some (.map k e)) (z : Value) (hz : (zeroValue e).run P w = .ok z w) (b n : Nat) (look : List UInt8 → Option Value)
    (hm : a.eval m = .map (some b)) (h : MapIs ok enc w b n look) (y : List UInt8) (hy : ok y) (hx : a.eval x = enc y) (u : Value) (hu : (look y).getD z = u) (hK : wpList P ops Q rest (a.put o.dst u) w) : wpList P ops Q (o :: rest) a w :=
  wpList_look hg mk m x t e ho ht z hz b n look hm h y hy hx (by rw [hu]; exact hK)
theorem run_storeL {P : Program} {w : World} {g : Nat} {ty t : TypeId} {c u : Value} (hg : Blk w g #[c] t) (hu : u.cells = #[u]) (h1 : u.oneCell' = true) (hi : (P.info? ty).map (·.size) = some 1) :
    (storeVar ty ⟨g, 0, none⟩ u).run P w = .ok () (w.setRow g #[u]) := by
  have hr := run_storeCells_at (P := P) g 0 t [u] 0 #[c] w hg (by simp) (by simpa using h1)
  cases hq : P.info? ty with
  | none => simp [hq] at hi
  | some it =>
    have hs1 : it.size = 1 := by simpa [hq] using hi
    simpa [storeVar, sizeOf, typeInfo, hq, hu, hs1] using hr
/-- A store into a block of one cell. -/
theorem wpList_storeL {P : Program} {ops : Array Oper} {rest : List Oper} {o : Oper} {a : Act} {w : World} {Q : Exit → Act → World → Prop} (hgd : o.guard = none) (ty : TypeId) (x y : Operand) (ho : o.op = .store ty x y)
    (g : Nat) (u : Value) (hx : a.eval x = .pointer (some ⟨g, 0, none⟩)) (hy : a.eval y = u) (t : TypeId) (c : Value) (hg : Blk w g #[c] t) (hu : u.cells = #[u]) (h1 : u.oneCell' = true) (hi : (P.info? ty).map (·.size) = some 1)
    (h : ∀ w', Blk w' g #[u] t → w.grownBy w' (some g) → wpList P ops Q rest (a.put o.dst undef) w') : wpList P ops Q (o :: rest) a w := by
  refine wpList_plain hgd fun K hK => ?_
  have hr := run_storeL (P := P) hg hu h1 hi
  unfold Oper.wp execOp
  simp only [ho, hx, hy, Instr.storeAt, Instr.sureAddr, Sem.run_bind, Sem.run_pure, Result.andThen_ok, hr]
  exact hK _ _ (h _ (hg.setRow _) (grown_row _ _ _))
theorem Try.zeroBool (w : World) : (zeroValue 4).run Try.prog w = .ok (.bool false) w := by kernel_rfl

/-- What the map of what has been found says. -/
def outLook (O : List HsT) (h : HsT) : Option Value := if h ∈ O then some (.bool true) else none
theorem outLook_snoc (O : List HsT) (h : HsT) (hO : h ∉ O) : (fun z => if z = h then some (Value.bool true) else outLook O z) = outLook (O ++ [h]) := by
  funext z
  unfold outLook
  by_cases e : z = h
  · subst e; simp
  · by_cases e2 : z ∈ O <;> simp [e, e2]
/-- The slice lies below (where it holds anything). -/
def LowV (v : Value) (l : List HsT) (base : Nat) : Prop := l ≠ [] → ∀ q, v.ownBlock = some q → q < base
theorem HashesAt.belowB {w w' : World} {base : Nat} {v : Value} {l : List HsT} (h : HashesAt w v l) (hv : LowV v l base) (b : Below base w w') : HashesAt w' v l := by
  refine ⟨h.1, ?_⟩
  rcases h.2 with h0 | ⟨g, o, c, rfl, hc, hlt, hcell⟩
  · exact .inl h0
  · refine .inr ⟨g, o, c, rfl, hc, Nat.lt_of_lt_of_le hlt b.size, fun j u hj => (b.cell (p := ⟨g, o + j, none⟩) (hv (fun e => by rw [e] at hj; simp at hj) g rfl)).trans (hcell j u hj)⟩
theorem HashOwn.ne_blk {w : World} {base : Nat} {e t : TypeId} {v : Value} {l : List HsT} (h : HashOwn w base e v l) {q : Nat} {cs : Array Value} (hq : Blk w q cs t) (he : e ≠ t) : some q ≠ v.ownBlock := fun e2 => own_ne h.2 hq he e2.symm
theorem newT_len : ∀ (l O : List HsT), (newT O l).length ≤ l.length
  | [], _ => Nat.le_refl _
  | x :: l, O => by
    rw [newT]
    by_cases hx : x ∈ O
    · rw [if_pos hx, List.length_cons]; exact Nat.le_succ_of_le (newT_len l O)
    · rw [if_neg hx, List.length_cons, List.length_cons]; exact Nat.succ_le_succ (newT_len l _)
theorem blk_ne {w : World} {a b : Nat} {cs ds : Array Value} {t u : TypeId} (h : Blk w a cs t) (g : Blk w b ds u) (ht : t ≠ u) : a ≠ b := fun e => by
  subst e
  unfold Blk at h g
  rw [h] at g
  cases g
  exact ht rfl
theorem own_cells {w : World} {base : Nat} {e : TypeId} {size n : Nat} {v : Value} {xs : List Value} (h : w.ownsRow base e size v n xs) : v.cells = #[v] := by
  obtain ⟨ao, c, rfl⟩ := own_slice h
  rfl
theorem own_one {w : World} {base : Nat} {e : TypeId} {size n : Nat} {v : Value} {xs : List Value} (h : w.ownsRow base e size v n xs) : v.oneCell' = true := by
  obtain ⟨ao, c, rfl⟩ := own_slice h
  rfl
end Go.Proofs.Ytodnmhflafpefaa
