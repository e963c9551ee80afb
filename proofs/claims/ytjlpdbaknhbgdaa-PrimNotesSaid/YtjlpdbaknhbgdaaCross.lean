/-
  A row put over a text: prim.cross and the document's; prim.tag.
-/
import Derived.Test.YtjlpdbaknhbgdaaStream
set_option linter.unusedSimpArgs false
set_option linter.unusedVariables false
namespace Go.Proofs.Ytjlpdbaknhbgdaa
open Go.RowKit

def lStream : List UInt8 := [115, 116, 114, 101, 97, 109]
def lTag : List UInt8 := [116, 97, 103]
def mixK (s r : List UInt8) (k : Nat) : List UInt8 := (List.zipWith (· ^^^ ·) s r).take k ++ s.drop k
theorem mixK_zero (s r : List UInt8) : mixK s r 0 = s := by simp [mixK]
theorem mixK_all (s r : List UInt8) (h : r.length = s.length) : mixK s r s.length = List.zipWith (· ^^^ ·) s r := by
  rw [mixK, List.drop_length, List.append_nil, List.take_of_length_le (by rw [List.length_zipWith]; omega)]
theorem mixK_len (s r : List UInt8) (k : Nat) (h : r.length = s.length) (hk : k ≤ s.length) : (mixK s r k).length = s.length := by
  simp [mixK, h]; omega
theorem mixK_get (s r : List UInt8) (k : Nat) (h : r.length = s.length) (hk : k < s.length) : (mixK s r k)[k]? = some s[k] := by
  rw [mixK, List.getElem?_append_right (by simp; omega)]
  simp [h]
  rw [Nat.min_eq_left (by omega), Nat.sub_self, Nat.add_zero]
  exact List.getElem?_eq_getElem hk
theorem mixK_set (s r : List UInt8) (k : Nat) (h : r.length = s.length) (hk : k < s.length) (hr : k < r.length) : (mixK s r k).set k (s[k] ^^^ r[k]) = mixK s r (k + 1) := by
  have hz : k < (List.zipWith (· ^^^ ·) s r).length := by simp [h]; omega
  rw [mixK, List.set_append_right _ _ (by simp; omega), mixK, List.take_succ_eq_append_getElem hz, List.append_assoc]
  congr 1
  rw [List.length_take, Nat.min_eq_left (by omega), Nat.sub_self, List.drop_eq_getElem_cons hk, List.set_cons_zero]
  simp
theorem u8xor_self2 (a b : UInt8) : a ^^^ b ^^^ b = a := by rw [UInt8.xor_assoc, UInt8.xor_self, UInt8.xor_zero]
theorem zip_twice : ∀ (s r : List UInt8), r.length = s.length → List.zipWith (· ^^^ ·) (List.zipWith (· ^^^ ·) s r) r = s
  | [], r, h => by simp
  | a :: s, [], h => by simp at h
  | a :: s, b :: r, h => by
    simp only [List.zipWith_cons_cons]
    rw [zip_twice s r (by simpa using h), u8xor_self2]
def crossT (key s : List UInt8) : List UInt8 := List.zipWith (· ^^^ ·) s (streamT (derive key lStream []) s.length)
theorem crossT_len (key s : List UInt8) : (crossT key s).length = s.length := by simp [crossT, streamT_len]
theorem crossT_twice (key s : List UInt8) : crossT key (crossT key s) = s := by
  rw [crossT, crossT_len, crossT]
  exact zip_twice s _ (streamT_len _ _)

theorem OwnM.set {base : Nat} {e : TypeId} {w : World} {g n cap : Nat} {bs : List UInt8} (h : OwnM base e w (.slice (some ⟨g, 0, none⟩) n cap) bs) (k : Nat) (c : UInt8) : OwnM base e (w.setCell ⟨g, k, none⟩ (bv c)) (.slice (some ⟨g, 0, none⟩) n cap) (bs.set k c) := by
  obtain ⟨g', cap', cur, fr, he, hb, hg, h1, h2, h3, h4⟩ := h
  simp only [Value.slice.injEq, Option.some.injEq, Addr.mk.injEq] at he
  obtain ⟨⟨rfl, _⟩, rfl, rfl⟩ := he
  refine ⟨g, cap, cur.setIfInBounds k (bv c), fr, by simp, hb, ?_, ?_, by simpa using h2, by simpa using h3, h4⟩
  · show (w.heap.modify g _)[g]? = _
    have hl := lt_of_block hg
    rw [Array.getElem?_eq_getElem (by simpa using hl), Array.getElem_modify_self]
    have h' : w.heap[g] = .cells cur e fr := by simpa [Array.getElem?_eq_getElem hl] using hg
    rw [h']; rfl
  · rw [Array.toList_setIfInBounds, List.length_set, List.take_set, h1, List.map_set]
theorem OwnM.free {base : Nat} {e : TypeId} {w : World} {g n cap : Nat} {bs : List UInt8} (h : OwnM base e w (.slice (some ⟨g, 0, none⟩) n cap) bs) (k : Nat) (hk : k < bs.length) : w.frozen? ⟨g, k, none⟩ = false := by
  obtain ⟨g', cap', cur, fr, he, hb, hg, h1, h2, h3, h4⟩ := h
  simp only [Value.slice.injEq, Option.some.injEq, Addr.mk.injEq] at he
  obtain ⟨⟨rfl, _⟩, rfl, rfl⟩ := he
  have := h4 k (by omega)
  simp only [World.frozen?, hg]
  simp
  omega
theorem OwnM.cellOf {base : Nat} {e : TypeId} {w : World} {g n cap : Nat} {bs : List UInt8} (h : OwnM base e w (.slice (some ⟨g, 0, none⟩) n cap) bs) (k : Nat) (c : UInt8) (hk : bs[k]? = some c) : w.cell? ⟨g, k, none⟩ = some (bv c) := by
  obtain ⟨g', cap', he, _, _, _, hc⟩ := h.read
  simp only [Value.slice.injEq, Option.some.injEq, Addr.mk.injEq] at he
  obtain ⟨⟨rfl, _⟩, rfl, rfl⟩ := he
  obtain ⟨hl, he⟩ := List.getElem?_eq_some_iff.1 hk
  rw [hc k hl, he]
theorem OwnM.conv_back {P : Program} {base : Nat} {w : World} {g n c : Nat} {bs : List UInt8} {src e dst : TypeId} (hs : P.underlying src = some (.slice e)) (he : P.underlying e = some (.int .u8)) (hd : P.underlying dst = some .string)
    (h : OwnM base e w (.slice (some ⟨g, 0, none⟩) n c) bs) (hn : n = bs.length) : (convert src dst (.slice (some ⟨g, 0, none⟩) n c)).run P w = .ok (.string (str bs)) w := by
  subst hn
  exact run_convert_bytes_back (P := P) w src dst e ⟨g, 0, none⟩ c bs hs he hd fun j hj => by
    rw [Addr.add_lit, Nat.zero_add]
    have := h.cellOf j bs[j] (List.getElem?_eq_getElem hj)
    simpa [bv] using this
theorem OwnM.ofBlk {w : World} {g : Nat} {e : TypeId} {l : List UInt8} (h : Blk w g (l.map bv).toArray e) : OwnM g e w (.slice (some ⟨g, 0, none⟩) l.length l.length) l :=
  ⟨g, l.length, _, (0, 0), rfl, Nat.le_refl _, h, by rw [show ((l.map bv).toArray).toList = l.map bv from rfl, List.take_of_length_le (by simp)], Nat.le_refl _, by simp, fun j _ => by omega⟩
theorem own_full_blk {w : World} {base : Nat} {e : TypeId} {g n : Nat} {xs : List Value} (h : w.ownsRow base e 1 (.slice (some ⟨g, 0, none⟩) n n) n xs) : ∃ cur, Blk w g cur e ∧ cur.size = n := by
  rcases h.2 with ⟨q1, q2⟩ | ⟨g2, cap, cur, q1, q2, q3, q4, q5, q6, q7⟩
  · simp at q1
  · simp at q1
    obtain ⟨rfl, rfl⟩ := q1
    exact ⟨cur, q3, by omega⟩

set_option maxHeartbeats 4000000 in
set_option maxRecDepth 100000 in
theorem Cross_calls (key s : List UInt8) (w : World) (hk : key.length = 32) (hl : s.length ≤ 65536) :
    Calls Try.prog 33 #[.agg (key.map bv).toArray, .string (str s)] w fun e w' => e = .returned (.string (str (crossT key s))) ∧ Below w.heap.size w w' := by
  have HK := Lib.hid hk
  clear hk
  have hK0 : Blk (w.alloc (.cells (key.map bv).toArray 26)) w.heap.size (key.map bv).toArray 26 := Blk.new _ _ _
  have hb0 : Below w.heap.size w (w.alloc (.cells (key.map bv).toArray 26)) := (Below.refl _ _).alloc (Nat.le_refl _) _
  obtain ⟨d, hd⟩ : ∃ d, d = derive key lStream [] := ⟨_, rfl⟩
  have HD : Hid (d.length = 32) := by show _ = _; rw [hd]; exact hmac_len _ _
  obtain ⟨r, hr⟩ : ∃ r, r = streamT d s.length := ⟨_, rfl⟩
  have hrl : r.length = s.length := by rw [hr]; exact streamT_len _ _
  have c1 : ∀ x, Calls Try.prog 25 #[.agg (key.map bv).toArray, .string (str lStream), .string (str [])] x fun e w' => e = .returned (.agg (d.map bv).toArray) ∧ Below x.heap.size x w' := by rw [hd]; exact fun x => Derive_calls key lStream [] x HK.out (by decide) (by simp)
  have c2 : ∀ x, Calls Try.prog 49 #[.agg (d.map bv).toArray, .int .i64 s.length] x fun e w' => e = .returned (.string (str r)) ∧ Below x.heap.size x w' := by rw [hr]; exact fun x => Stream_calls d s.length x HD.out hl
  have hfin : Hid (crossT key s = mixK s r s.length) := by show _ = _; rw [mixK_all s r hrl, crossT, hr, hd]
  have HRL := Lib.hid hrl
  clear hr hd
  obtain ⟨i8, hi, hz0, hz1, hz2⟩ := info_parts Try.infoU8
  have HH := Lib.hid (⟨hi, hz0, hz1, hz2⟩ : _ ∧ _ ∧ _ ∧ _)
  clear hi hz0 hz1 hz2 hrl
  go_enter Try.func33, Try.ntmps33
  go_wp2_with ((with_reducible show wpList _ _ _ (⟨some 8, _, _, _, _, _⟩ :: _) _ _); refine wpList_loadBlk rfl 26 (.tmp 2) rfl w.heap.size (by rfl) _ _ _ hK0 Try.underlying26 rfl (by rw [bv_size, HK.out]; exact Try.sizeHash) ?_)
  generalize w.alloc (.cells (key.map bv).toArray 26) = W0 at hK0 hb0 ⊢
  refine (c1 _).mono ?_
  rintro e w1 ⟨rfl, b1⟩
  have hb1 := hb0.trans (b1.mono hb0.size)
  clear hK0 hb0 b1
  go_wp2_with fail
  refine (c2 _).mono ?_
  rintro e w2 ⟨rfl, b2⟩
  have hb2 := hb1.trans (b2.mono hb1.size)
  clear hb1 b2 c1 c2
  go_wp2_with (first | ((with_reducible show wpList _ _ _ (⟨some 15, _, _, _, _, _⟩ :: _) _ _); refine wpList_make_full _ rfl _ _ 45 rfl w2.heap.size 5 i8 (.int .u8 0) 1 Try.underlying45 HH.out.1 HH.out.2.1 HH.out.2.2.1 .i64 .i64 _ _ s.length (by rfl) (by rfl) rfl rfl (by rw [HH.out.2.2.2]; omega) (by unfold maxLen; omega) (Nat.le_refl _) ?_; intro w3 hO3 g3; obtain ⟨cur, hC3, hcs⟩ := own_full_blk hO3; have hb3 : Below w.heap.size w w3 := hb2.grown g3 hb2.size (by simp); have hs3 := hb2.size; clear hO3 g3) | ((with_reducible show wpList _ _ _ (⟨some 18, _, _, _, _, _⟩ :: _) _ _); refine wpList_copyStr rfl (.tmp 16) (.tmp 17) 45 9 rfl 5 Try.underlying45 Try.sizeU8' w2.heap.size 0 s.length s.length s (by rfl) (by rfl) cur _ hC3 (Nat.le_refl _) (by omega) (s.map bv).toArray (by rw [List.drop_of_length_le (by simp; omega)]; simp) ?_; intro w4 hC4 g4; have hb4 : Below w.heap.size w w4 := below_new hb3 g4 hs3 hb3.size; clear hC3 hb3 g4))
  have hO4 : Hid (OwnM w2.heap.size 5 w4 (.slice (some ⟨w2.heap.size, 0, none⟩) s.length s.length) (mixK s r 0)) := by show OwnM _ _ _ _ _; rw [mixK_zero]; exact OwnM.ofBlk hC4
  have HB4 := Lib.hid hb4
  have hs2 := hb2.size
  clear hC4 hb4 hb2
  generalize w2.heap.size = G at hO4 hs2 ⊢
  go_loopw [7, 21] (fun _ j wr => ∃ (k : Nat), k ≤ s.length ∧ j = .int .i64 k ∧ Hid (OwnM G 5 wr (.slice (some ⟨G, 0, none⟩) s.length s.length) (mixK s r k)) ∧ Hid (Below w.heap.size w wr)) (fun _ j _ => s.length - (intOf j).toNat)
  case atStart => exact ⟨0, by omega, rfl, hO4, HB4⟩
  case round =>
    obtain ⟨k, hk, rfl, hO, hB⟩ := hrel
    clear hO4 HB4
    by_cases hlt : k < s.length
    · have hlen := mixK_len s r k HRL.out hk
      have hkr : k < r.length := by rw [HRL.out]; exact hlt
      have hc := hO.out.cellOf k s[k] (mixK_get s r k HRL.out hlt)
      have hf := hO.out.free k (by rw [hlen]; exact hlt)
      have hO' := hO.out.set k (s[k] ^^^ r[k])
      rw [mixK_set s r k HRL.out hlt hkr] at hO'
      have HO' := Lib.hid hO'
      have HX : Hid (Value.int .u8 (bits BinOp.xor IntKind.u8 (s[k].toNat : Int) (r[k].toNat : Int)) = bv (s[k] ^^^ r[k])) := by show _ = _; unfold bv; rw [← bxor]
      clear hO' hlen
      unfold bv at hc
      go_wp2_with fail
      go_region
      all_goals
        go_wp2_with fail
        go_roundw
        case rel =>
          refine ⟨k + 1, by omega, by go_num, ?_, ?_⟩
          · rw [HX.out]; exact HO'
          · show Below _ _ _
            refine below_drewN (hB.out.setCell ?_ _) 1
            show w.heap.size ≤ G
            omega
        case measure => simp [intOf]; omega
    · obtain rfl : k = s.length := by omega
      have hcv := hO.out.conv_back Try.underlying45 Try.underlying5 Try.underlying9 (mixK_len s r _ HRL.out (Nat.le_refl _)).symm
      rw [← hfin.out] at hcv
      generalize hCT : crossT key s = ct at hcv
      have HCT := Lib.hid hCT
      clear hCT
      go_wp2_with fail
      go_returns
      have h1 := HCT.out
      subst h1
      exact ⟨rfl, hB.out⟩

end Go.Proofs.Ytjlpdbaknhbgdaa
