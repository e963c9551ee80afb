/-
  The program's mac: codes under a key: as contracts over any world.
-/
import Derived.Test.YtnfegmcdljejnaaShaSum
set_option linter.unusedSimpArgs false
set_option linter.unusedVariables false
namespace Go.Proofs.Ytnfegmcdljejnaa
open Go.RowKit

/-- A key of at most 64 bytes, filled up to 64, each with a byte put over it. -/
def padX (c : UInt8) (key : List UInt8) : List UInt8 := (List.range 64).map fun i => key.getD i 0 ^^^ c
def hmac (key text : List UInt8) : List UInt8 := sha (padX 92 key ++ sha (padX 54 key ++ text))
theorem hmac_len (key text : List UInt8) : (hmac key text).length = 32 := sha_len _
theorem padX_len (c : UInt8) (key : List UInt8) : (padX c key).length = 64 := by simp [padX]
/-- The first k of them have it. -/
def padK (c : UInt8) (key : List UInt8) (k : Nat) : List UInt8 := (List.range 64).map fun i => if i < k then key.getD i 0 ^^^ c else key.getD i 0
theorem padK_len (c : UInt8) (key : List UInt8) (k : Nat) : (padK c key k).length = 64 := by simp [padK]
theorem padK_all (c : UInt8) (key : List UInt8) : padK c key 64 = padX c key := by
  unfold padK padX
  apply List.map_congr_left
  intro i hi
  rw [if_pos (by simpa using hi)]
theorem padK_zero (c : UInt8) (key : List UInt8) (h : key.length ≤ 64) : padK c key 0 = key ++ List.replicate (64 - key.length) 0 := by
  apply List.ext_getElem
  · simp [padK]; omega
  · intro i h1 h2
    simp only [padK, List.getElem_map, List.getElem_range, Nat.not_lt_zero, if_false]
    by_cases hi : i < key.length
    · rw [List.getElem_append_left hi, List.getD_eq_getElem?_getD, List.getElem?_eq_getElem hi]; rfl
    · rw [List.getElem_append_right (by omega), List.getElem_replicate, List.getD_eq_getElem?_getD, List.getElem?_eq_none (by omega)]; rfl
theorem padK_get (c : UInt8) (key : List UInt8) (k : Nat) (h : k < 64) : (padK c key k)[k]'(by rw [padK_len]; exact h) = key.getD k 0 := by
  simp [padK]
theorem padK_set (c : UInt8) (key : List UInt8) (k : Nat) (h : k < 64) : (padK c key k).set k (key.getD k 0 ^^^ c) = padK c key (k + 1) := by
  apply List.ext_getElem
  · simp [padK]
  · intro i h1 h2
    have hi : i < 64 := by simpa [padK] using h2
    rw [List.getElem_set]
    simp only [padK, List.getElem_map, List.getElem_range]
    by_cases e : k = i
    · subst e; rw [if_pos rfl, if_pos (by omega)]
    · rw [if_neg e]
      by_cases h3 : i < k
      · rw [if_pos h3, if_pos (by omega)]
      · rw [if_neg h3, if_neg (by omega)]
theorem bxor (a : UInt8) (c : UInt8) : bits BinOp.xor IntKind.u8 (a.toNat : Int) (c.toNat : Int) = ((a ^^^ c).toNat : Int) := by
  rw [u8_xor_nat _ _ a.toNat_lt c.toNat_lt, UInt8.toNat_xor]

theorem wpQuiet_convBlk {P : Program} {ops : Array Oper} {C : World → Prop} {Q : Act → Prop} {a : Act} {o : Oper} {rest : List Oper} (hw : Region.wanted o (yielded ops a.tmps) = true) (src dst e : TypeId) (x : Operand) (ho : o.op = .convert src dst x)
    (hs : P.underlying src = some (.slice e)) (he : P.underlying e = some (.int .u8)) (hd : P.underlying dst = some .string)
    (g n c : Nat) (l : List UInt8) (hn : l.length = n) (hx : a.eval x = .slice (some ⟨g, 0, none⟩) n c) (t : TypeId) (hS : ∀ w, C w → ∃ cs, Blk w g cs t ∧ cs.toList.take l.length = l.map bv)
    (h : wpQuiet P ops C Q rest (a.put o.dst (.string (str l)))) : wpQuiet P ops C Q (o :: rest) a :=
  wpQuiet_step fun K hK => by
    subst hn
    rw [if_pos hw]
    refine ⟨_, fun w hw' => ?_, hK _ h⟩
    obtain ⟨cs, hg, hl⟩ := hS w hw'
    have hr := run_convert_bytes_back (P := P) w src dst e ⟨g, 0, none⟩ c l hs he hd (fun j hj => by
      rw [Addr.add_lit, Nat.zero_add]
      refine hg.cell j _ ?_
      have h2 : (cs.toList.take l.length)[j]? = (l.map bv)[j]? := by rw [hl]
      rw [List.getElem?_take_of_lt hj] at h2
      simpa [bv, hj] using h2)
    unfold Oper.quietAt
    simp [execOp, ho, hx, hr, Result.andThen]
    exact ⟨rfl, rfl⟩

theorem Try.infoStr : (Try.prog.info? 9).map (fun i => (i.zero, i.size, i.bytes)) = some (some (.string (str [])), 1, 16) := by kernel_rfl
/-- What append made of strings. -/
theorem own_strs {w : World} {base : Nat} {e : TypeId} {n : Nat} {v : Value} {ps : List (List UInt8)} (h : w.ownsRow base e 1 v n (ps.map fun s => Value.string (str s))) (hn : 0 < n) : ∃ ao c, v = .slice ao n c ∧ StrsAt w ao n ps := by
  obtain ⟨hl, h2⟩ := h
  rcases h2 with ⟨_, h0⟩ | ⟨g, cap, cur, rfl, hb, hg, h1, h3, h4, h5⟩
  · omega
  · refine ⟨_, _, rfl, by simpa using hl, .inr ⟨g, 0, rfl, lt_of_block hg, fun i hi => ?_⟩⟩
    have e1 : (cur.toList.take (n * 1))[i]? = (ps.map fun s => Value.string (str s))[i]? := by rw [h5]
    rw [List.getElem?_take_of_lt (by simp at hl; omega), List.getElem?_map, List.getElem?_eq_getElem hi] at e1
    have : cur[i]? = some (.string (str ps[i])) := by simpa using e1
    simp [World.cell?, hg, this]

abbrev Z64b : Array Value := fillB 64 0 []
theorem Z64b_eq (n : Nat) : True := trivial
end Go.Proofs.Ytnfegmcdljejnaa
