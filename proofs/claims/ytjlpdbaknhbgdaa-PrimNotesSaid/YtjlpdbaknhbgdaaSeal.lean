/-
  Seals: prim.tag, prim.Seal with a nil book and no secrets, the document's Seal.
-/
import Derived.Test.YtjlpdbaknhbgdaaCross
import Derived.Test.YtjlpdbaknhbgdaaRefPrim1
set_option linter.unusedSimpArgs false
set_option linter.unusedVariables false
namespace Go.Proofs.Ytjlpdbaknhbgdaa
open Go.RowKit

def tagT2 (key about c : List UInt8) : List UInt8 := (derive (derive key lTag []) about c).take 16
theorem tagT2_len (key about c : List UInt8) : (tagT2 key about c).length = 16 := by
  have h : (derive (derive key lTag []) about c).length = 32 := hmac_len _ _
  rw [tagT2, List.length_take, h]
  rfl
def sealT (key about s : List UInt8) : List UInt8 := crossT key s ++ tagT2 key about (crossT key s)
theorem sealT_len (key about s : List UInt8) : (sealT key about s).length = s.length + 16 := by rw [sealT, List.length_append, crossT_len, tagT2_len]

set_option maxHeartbeats 4000000 in
set_option maxRecDepth 100000 in
theorem tag_calls (key about c : List UInt8) (w : World) (hk : key.length = 32) (ha : about.length ≤ 68719476736) (hc : c.length ≤ 68719476736) :
    Calls Try.prog 34 #[.agg (key.map bv).toArray, .string (str about), .string (str c)] w fun e w' => e = .returned (.string (str (tagT2 key about c))) ∧ Below w.heap.size w w' := by
  have HK := Lib.hid hk
  clear hk
  have hK0 : Blk (w.alloc (.cells (key.map bv).toArray 26)) w.heap.size (key.map bv).toArray 26 := Blk.new _ _ _
  have hb0 : Below w.heap.size w (w.alloc (.cells (key.map bv).toArray 26)) := (Below.refl _ _).alloc (Nat.le_refl _) _
  obtain ⟨d, hd⟩ : ∃ d, d = derive key lTag [] := ⟨_, rfl⟩
  have HD : Hid (d.length = 32) := by show _ = _; rw [hd]; exact hmac_len _ _
  obtain ⟨r, hr⟩ : ∃ r, r = derive d about c := ⟨_, rfl⟩
  have HR : Hid (r.length = 32) := by show _ = _; rw [hr]; exact hmac_len _ _
  have c1 : ∀ x, Calls Try.prog 25 #[.agg (key.map bv).toArray, .string (str lTag), .string (str [])] x fun e w' => e = .returned (.agg (d.map bv).toArray) ∧ Below x.heap.size x w' := by rw [hd]; exact fun x => Derive_calls key lTag [] x HK.out (by decide) (by simp)
  have c2 : ∀ x, Calls Try.prog 25 #[.agg (d.map bv).toArray, .string (str about), .string (str c)] x fun e w' => e = .returned (.agg (r.map bv).toArray) ∧ Below x.heap.size x w' := by rw [hr]; exact fun x => Derive_calls d about c x HD.out ha hc
  have hfin : Hid (tagT2 key about c = r.take 16) := by show _ = _; rw [tagT2, hr, hd]
  clear hd hr
  go_enter Try.func34, Try.ntmps34
  go_wp2_with ((with_reducible show wpList _ _ _ (⟨some 8, _, _, _, _, _⟩ :: _) _ _); refine wpList_loadBlk rfl 26 (.tmp 3) rfl w.heap.size (by rfl) _ _ _ hK0 Try.underlying26 rfl (by rw [bv_size, HK.out]; exact Try.sizeHash) ?_)
  generalize w.alloc (.cells (key.map bv).toArray 26) = W0 at hK0 hb0 ⊢
  refine (c1 _).mono ?_
  rintro e w1 ⟨rfl, b1⟩
  have hb1 := hb0.trans (b1.mono hb0.size)
  clear hK0 hb0 b1
  go_wp2_with fail
  refine (c2 _).mono ?_
  rintro e w2 ⟨rfl, b2⟩
  have hb2 := hb1.trans (b2.mono hb1.size)
  have hN := Blk.new w2 Z32 26
  have hb3 := hb2.alloc hb2.size (.cells Z32 26)
  have hs2 := hb2.size
  clear hb1 b2 c1 c2 hb2
  go_wp2_with (first | ((with_reducible show wpList _ _ _ (⟨none, Op.store _ (.tmp 7) _, _, _, _, _⟩ :: _) _ _); refine wpList_storeBlk rfl 26 (.tmp 7) (.tmp 12) rfl w2.heap.size (r.map bv).toArray (by rfl) (by rfl) _ _ hN (by rw [bv_size, HR.out]; exact Try.sizeHash) (by rw [bv_size, HR.out, Z32_size]) (bv_all _) ?_; intro w3 hD3 g3; have hb4 : Below w.heap.size w w3 := below_new hb3 g3 hs2 hb3.size; clear hN hb3 g3) | ((with_reducible show wpList _ _ _ (⟨some 14, _, _, _, _, _⟩ :: _) _ _); refine wpList_convBlk rfl 45 9 5 (.tmp 13) rfl Try.underlying45 Try.underlying5 Try.underlying9 w2.heap.size 16 32 (by rfl) _ _ hD3 (r.take 16) (by rw [List.length_take, HR.out]; rfl) (by rw [show ((r.map bv).toArray).toList = r.map bv from rfl, List.map_take]) ?_))
  rw [← hfin.out]
  go_returns
  exact ⟨rfl, hb4⟩

set_option maxHeartbeats 4000000 in
set_option maxRecDepth 100000 in
theorem Seal_calls (key about s : List UInt8) (w : World) (hk : key.length = 32) (ha : about.length ≤ 68719476736) (hl : s.length ≤ 65536) :
    Calls Try.prog 11 #[.pointer none, .agg (key.map bv).toArray, .string (str about), .string (str s), .slice none 0 0] w fun e w' => e = .returned (.string (str (sealT key about s))) ∧ Below w.heap.size w w' := by
  have HK := Lib.hid hk
  clear hk
  have hK0 : Blk (w.alloc (.cells (key.map bv).toArray 26)) w.heap.size (key.map bv).toArray 26 := Blk.new _ _ _
  have hb0 : Below w.heap.size w (w.alloc (.cells (key.map bv).toArray 26)) := (Below.refl _ _).alloc (Nat.le_refl _) _
  obtain ⟨c, hc⟩ : ∃ c, c = crossT key s := ⟨_, rfl⟩
  have hcl : c.length = s.length := by rw [hc]; exact crossT_len _ _
  obtain ⟨r, hr⟩ : ∃ r, r = tagT2 key about c := ⟨_, rfl⟩
  have HR : Hid (r.length = 16) := by show _ = _; rw [hr]; exact tagT2_len _ _ _
  have c1 : ∀ x, Calls Try.prog 33 #[.agg (key.map bv).toArray, .string (str s)] x fun e w' => e = .returned (.string (str c)) ∧ Below x.heap.size x w' := by rw [hc]; exact fun x => Cross_calls key s x HK.out hl
  have c2 : ∀ x, Calls Try.prog 34 #[.agg (key.map bv).toArray, .string (str about), .string (str c)] x fun e w' => e = .returned (.string (str r)) ∧ Below x.heap.size x w' := by rw [hr]; exact fun x => tag_calls key about c x HK.out ha (by omega)
  have hfin : Hid (sealT key about s = c ++ r) := by show _ = _; rw [sealT, hr, hc]
  have hrl : r.length ≤ 16 := by rw [HR.out]; omega
  have hcl2 : c.length ≤ 65536 := by omega
  clear hc hr hcl
  go_enter Try.func11, Try.ntmps11
  go_wp2_with ((with_reducible show wpList _ _ _ (⟨some 25, _, _, _, _, _⟩ :: _) _ _); refine wpList_loadBlk rfl 26 (.tmp 6) rfl w.heap.size (by rfl) _ _ _ hK0 Try.underlying26 rfl (by rw [bv_size, HK.out]; exact Try.sizeHash) ?_)
  generalize w.alloc (.cells (key.map bv).toArray 26) = W0 at hK0 hb0 ⊢
  refine (c1 _).mono ?_
  rintro e w1 ⟨rfl, b1⟩
  have hb1 := hb0.trans (b1.mono hb0.size)
  have hK1 := hK0.below b1 hK0.lt
  clear hK0 hb0 b1
  go_wp2_with ((with_reducible show wpList _ _ _ (⟨some 29, _, _, _, _, _⟩ :: _) _ _); refine wpList_loadBlk rfl 26 (.tmp 6) rfl w.heap.size (by rfl) _ _ _ hK1 Try.underlying26 rfl (by rw [bv_size, HK.out]; exact Try.sizeHash) ?_)
  refine (c2 _).mono ?_
  rintro e w2 ⟨rfl, b2⟩
  have hb2 := hb1.trans (b2.mono hb1.size)
  clear hb1 b2 c1 c2
  go_wp2_with fail
  go_returns
  rw [hfin.out]
  exact ⟨rfl, hb2⟩
set_option maxHeartbeats 4000000 in
set_option maxRecDepth 100000 in
theorem SealLong_calls (key about s : List UInt8) (w : World) (hl : 65536 < s.length) (hm : s.length ≤ maxLen) :
    Calls Try.prog 11 #[.pointer none, .agg (key.map bv).toArray, .string (str about), .string (str s), .slice none 0 0] w fun e w' => e = .returned (.string (str [])) ∧ Below w.heap.size w w' := by
  have hb0 : Below w.heap.size w (w.alloc (.cells (key.map bv).toArray 26)) := (Below.refl _ _).alloc (Nat.le_refl _) _
  unfold maxLen at hm
  go_enter Try.func11, Try.ntmps11
  go_wp2_with fail
  go_returns
  exact ⟨rfl, hb0⟩

end Go.Proofs.Ytjlpdbaknhbgdaa
