/-
  A number in four bytes: the program's and the document's.
-/
import Derived.Test.YtjlpdbaknhbgdaaRefMac
set_option linter.unusedSimpArgs false
set_option linter.unusedVariables false
namespace Go.Proofs.Ytjlpdbaknhbgdaa
open Go.RowKit

def four4 (n : Nat) : List UInt8 := [UInt8.ofNat (n / 16777216), UInt8.ofNat (n / 65536), UInt8.ofNat (n / 256), UInt8.ofNat n]
theorem bv_ofNat' (m : Nat) (a : Int) (ha : a = ((m % 256 : Nat) : Int)) : Value.int .u8 a = bv (UInt8.ofNat m) := by
  subst ha
  unfold bv
  rw [UInt8.toNat_ofNat']
theorem four_arm (n : Nat) : [Value.int .u8 ((n : Int) / 16777216 % 256), Value.int .u8 ((n : Int) / 65536 % 256), Value.int .u8 ((n : Int) / 256 % 256), Value.int .u8 ((n : Int) % 256)] = (four4 n).map bv := by
  have e : ∀ (a1 a2 a3 a4 : Int), a1 = ((n / 16777216 % 256 : Nat) : Int) → a2 = ((n / 65536 % 256 : Nat) : Int) → a3 = ((n / 256 % 256 : Nat) : Int) → a4 = ((n % 256 : Nat) : Int) → [Value.int .u8 a1, Value.int .u8 a2, Value.int .u8 a3, Value.int .u8 a4] = (four4 n).map bv := by
    intro a1 a2 a3 a4 h1 h2 h3 h4
    rw [bv_ofNat' _ a1 h1, bv_ofNat' _ a2 h2, bv_ofNat' _ a3 h3, bv_ofNat' _ a4 h4]
    rfl
  exact e _ _ _ _ (by omega) (by omega) (by omega) (by omega)
theorem four_calls (n : Nat) (w : World) (hn : n ≤ 1099511627776) : Calls Try.prog 45 #[.int .i64 n] w fun e w' => e = .returned (.string (str (four4 n))) ∧ Below w.heap.size w w' := by
  have HN := Lib.hid (four_arm n)
  go_enter Try.func45, Try.ntmps45
  go_wp2_with ((with_reducible show wpList _ _ _ (⟨some 15, _, _, _, _, _⟩ :: _) _ _); refine wpList_convBlk rfl 45 9 5 _ rfl Try.underlying45 Try.underlying5 Try.underlying9 w.heap.size 4 4 (by rfl) _ _ (Blk.new _ _ _) (four4 n) rfl HN.out ?_)
  go_returns
  exact ⟨rfl, (Below.refl _ _).alloc (Nat.le_refl _) _⟩
def derive (key label context : List UInt8) : List UInt8 := hmac key (four4 label.length ++ (label ++ context))
theorem conv_blk {w : World} {g n : Nat} {l : List UInt8} {t : TypeId} (hn : l.length = n) (h : Blk w g (l.map bv).toArray t) : (convert 45 9 (.slice (some ⟨g, 0, none⟩) n n)).run Try.prog w = .ok (.string (str l)) w := by
  subst hn
  exact run_convert_bytes_back (P := Try.prog) w 45 9 5 ⟨g, 0, none⟩ l.length l Try.underlying45 Try.underlying5 Try.underlying9 (fun j hj => by
      rw [Addr.add_lit, Nat.zero_add]
      refine h.cell j _ ?_
      rw [List.getElem?_toArray, List.getElem?_map, List.getElem?_eq_getElem hj]
      simp [bv, hj])

theorem store32 {P : Program} {w : World} {g : Nat} {t : TypeId} {h : List UInt8} (hh : h.length = 32) (hg : Blk w g Z32 t) : (storeCells ⟨g, 0, none⟩ (h.map bv)).run P w = .ok () (w.setRow g (h.map bv).toArray) := by
  have h1 := run_storeCells_at (P := P) g 0 t (h.map bv) 0 Z32 w hg (by rw [List.length_map, hh, Z32_size]; omega) (bv_one _)
  simp only [Nat.add_zero, List.take_zero, List.nil_append, List.length_map, hh] at h1
  rw [h1]
  have e : List.drop (0 + 32) Z32.toList = [] := by rfl
  rw [e, List.append_nil]

set_option maxHeartbeats 4000000 in
set_option maxRecDepth 100000 in
theorem Derive_calls (key label context : List UInt8) (w : World) (hk : key.length = 32) (hl : label.length ≤ 68719476736) (hc : context.length ≤ 68719476736) :
    Calls Try.prog 25 #[.agg (key.map bv).toArray, .string (str label), .string (str context)] w fun e w' => e = .returned (.agg ((derive key label context).map bv).toArray) ∧ Below w.heap.size w w' := by
  have HK := Lib.hid hk
  clear hk
  go_enter Try.func25, Try.ntmps25
  go_wp2_with fail
  have hB0 : Blk ((w.alloc (.cells (key.map bv).toArray 26)).alloc (.cells Z32 26)) w.heap.size (key.map bv).toArray 26 := (Blk.new _ _ _).alloc _
  have hR0 : Blk ((w.alloc (.cells (key.map bv).toArray 26)).alloc (.cells Z32 26)) (w.heap.size + 1) Z32 26 := blk_new1 _ _ _ _
  have hb0 : Below w.heap.size w ((w.alloc (.cells (key.map bv).toArray 26)).alloc (.cells Z32 26)) := ((Below.refl _ _).alloc (Nat.le_refl _) _).alloc (by simp) _
  generalize (w.alloc (.cells (key.map bv).toArray 26)).alloc (.cells Z32 26) = W0 at hB0 hR0 hb0 ⊢
  have hs0 : w.heap.size + 1 < W0.heap.size := Blk.lt hR0
  have hcv0 : (convert 45 9 (.slice (some ⟨w.heap.size, 0, none⟩) 32 32)).run Try.prog W0.drew = .ok (.string (str key)) W0.drew := conv_blk HK.out (Blk.drew hB0)
  have HB0 := Lib.hid hB0
  have HR0 := Lib.hid hR0
  have Hb0 := Lib.hid hb0
  clear hB0 hR0 hb0
  go_region_with (first | (go_at_call 45; refine (four_calls label.length _ (by omega)).mono ?_; rintro e w8 ⟨rfl, b8⟩; have HB8 := Lib.hid (Blk.below (Blk.drew HB0.out) b8 (Blk.lt HB0.out)); have HR8 := Lib.hid (Blk.below (Blk.drew HR0.out) b8 (Blk.lt HR0.out)); have Hb8 : Hid (Below w.heap.size w w8) := (below_drewN Hb0.out 1).trans (b8.mono (by simp; omega)); have hcv8 : (convert 45 9 (.slice (some ⟨w.heap.size, 0, none⟩) 32 32)).run Try.prog w8 = .ok (.string (str key)) w8 := conv_blk HK.out HB8.out; have hcv8b : (convert 45 9 (.slice (some ⟨w.heap.size, 0, none⟩) 32 32)).run Try.prog (w8.alloc (.cells #[.string (str (four4 label.length)), .string (str label), .string (str context)] 9)) = .ok (.string (str key)) (w8.alloc (.cells #[.string (str (four4 label.length)), .string (str label), .string (str context)] 9)) := conv_blk HK.out (Blk.alloc HB8.out _); have hs8 : w.heap.size + 1 < w8.heap.size := Blk.lt HR8.out; clear b8) | (go_at_call 44; refine (Code_calls key w8.heap.size 0 3 3 [four4 label.length, label, context] _ (by rw [HK.out]; omega) (StrsAt.blk [four4 label.length, label, context] (Blk.new w8 #[.string (str (four4 label.length)), .string (str label), .string (str context)] 9)) (by omega) (by simp [four4]; omega) (by omega)).mono ?_; rintro e w9 ⟨rfl, b9⟩; have hR9 := Blk.below (Blk.alloc HR8.out (.cells #[.string (str (four4 label.length)), .string (str label), .string (str context)] 9)) b9 (Blk.lt (Blk.alloc HR8.out _)); have Hb9 : Hid (Below w.heap.size w w9) := (Hb8.out.alloc (by omega) (.cells #[.string (str (four4 label.length)), .string (str label), .string (str context)] 9)).trans (b9.mono (by simp; omega)); have HE : Hid ([four4 label.length, label, context].flatten = four4 label.length ++ (label ++ context)) := (by show _ = _; simp); rw [HE.out]; have hst9 := store32 (P := Try.prog) (hmac_len key (four4 label.length ++ (label ++ context))) hR9; have HR9 := Lib.hid hR9; clear b9 hR9))
  all_goals
    have hB9 := Blk.setRow HR9.out ((hmac key (four4 label.length ++ (label ++ context))).map bv).toArray
    have h9 := Hb9.out.trans (grown_below (grown_row w9 (w.heap.size + 1) ((hmac key (four4 label.length ++ (label ++ context))).map bv).toArray) (by omega) Hb9.out.size)
    go_wp2_with fail
    refine ret_blk rfl (w.heap.size + 1) _ _ _ (by rfl) hB9 Try.underlying26 rfl (by rw [bv_size, hmac_len]; exact Try.sizeHash) rfl ?_
    exact ⟨rfl, h9⟩
end Go.Proofs.Ytjlpdbaknhbgdaa
