/-
  '==' of two arrays of bytes. No program here.
-/
import Derived.Test.YtnfegmcdljejnaaBase
import Derived.ChangeKeysEq
import Derived.Laws.StructEq
set_option linter.unusedSimpArgs false
set_option linter.unusedVariables false
namespace Go.Proofs.Ytnfegmcdljejnaa
open Go.RowKit

theorem bv_inj {a b : UInt8} (h : bv a = bv b) : a = b := by
  simp only [bv, Value.int.injEq, true_and] at h
  exact UInt8.toNat_inj.1 (by omega)

theorem run_items_bytes {P : Program} (w : World) (d : Nat) (e : TypeId) (he : P.underlying e = some (.int .u8)) (hp : P.plainKey e = true) (a b : List UInt8) : ∀ (is : List Nat), (∀ i ∈ is, i < a.length ∧ i < b.length) →
    (Op.eqItems (d + 1) e 1 (a.map bv).toArray (b.map bv).toArray is).run P w = .ok (is.all fun i => a[i]? == b[i]?) w
  | [], _ => by simp [Op.eqItems]
  | i :: is, h => by
    obtain ⟨ha, hb⟩ := h i (by simp)
    have h1 : (a.map bv).toArray[i * 1]? = some (bv a[i]) := by simp [ha]
    have h2 : (b.map bv).toArray[i * 1]? = some (bv b[i]) := by simp [hb]
    have hq : (Op.equalIn (d + 1) e (bv a[i]) (bv b[i])).run P w = .ok (a[i] == b[i]) w := by
      unfold bv
      rw [run_equalIn_int _ _ _ _ .u8 _ _ he]
      congr 1
      by_cases hh : a[i] = b[i]
      · simp [hh]
      · have : (a[i].toNat : Int) ≠ b[i].toNat := fun e => hh (UInt8.toNat_inj.1 (by omega))
        rw [beq_eq_false_iff_ne.2 this, beq_eq_false_iff_ne.2 hh]
    have ih := run_items_bytes w d e he hp a b is (fun j hj => h j (by simp [hj]))
    simp only [Op.eqItems, Sem.run_bind, run_part_plain w hp h1, run_part_plain w hp h2, Result.andThen_ok, hq, List.all_cons]
    rw [List.getElem?_eq_getElem ha, List.getElem?_eq_getElem hb]
    cases hc : a[i] == b[i]
    · have : (some a[i] == some b[i]) = false := by simpa using hc
      simp [this]
    · have : (some a[i] == some b[i]) = true := by simpa using hc
      simp [this, ih]

theorem all_range (a b : List UInt8) (n : Nat) (ha : a.length = n) (hb : b.length = n) : ((List.range n).all fun i => a[i]? == b[i]?) = (a == b) := by
  rw [Bool.eq_iff_iff, List.all_eq_true, beq_iff_eq]
  constructor
  · intro h
    apply List.ext_getElem?
    intro i
    by_cases hi : i < n
    · exact beq_iff_eq.1 (h i (by simpa using hi))
    · rw [List.getElem?_eq_none (by omega), List.getElem?_eq_none (by omega)]
  · rintro rfl i _
    simp

theorem run_eq_bytes {P : Program} (w : World) (d n : Nat) (t e : TypeId) (i : TypeInfo) (ht : P.underlying t = some (.array n e)) (he : P.underlying e = some (.int .u8)) (hp : P.plainKey e = true) (hi : P.info? e = some i) (hc : P.cellsOf e = 1) (a b : List UInt8) (ha : a.length = n) (hb : b.length = n) :
    (Op.equalIn (d + 2) t (.agg (a.map bv).toArray) (.agg (b.map bv).toArray)).run P w = .ok (a == b) w := by
  rw [run_equalIn_array w (d + 1) _ _ ht hi, hc, run_items_bytes w d e he hp a b _ (fun i hi => by simp at hi; omega), all_range a b n ha hb]
end Go.Proofs.Ytnfegmcdljejnaa
