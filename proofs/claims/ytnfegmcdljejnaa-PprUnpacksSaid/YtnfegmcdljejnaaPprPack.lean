/-
  ppr: Pack.
-/
import Derived.Test.YtnfegmcdljejnaaPprLaw
import Derived.Test.YtnfegmcdljejnaaPprSeeds
import Derived.Test.YtnfegmcdljejnaaWireWH
set_option linter.unusedSimpArgs false
set_option linter.unusedVariables false
namespace Go.Proofs.Ytnfegmcdljejnaa
open Go.RowKit

/-- A row's bytes. -/
def Sd.enc2 (s : Sd) : List UInt8 := numB s.lv ++ numB s.pl ++ s.h
def packB (l : List Sd) : List UInt8 := numB l.length ++ l.flatMap Sd.enc2
theorem Sd.enc2_len (s : Sd) (h : s.h.length = 32) : s.enc2.length ≤ 48 := by
  have h1 := numB_len s.lv
  have h2 := numB_len s.pl
  simp only [Sd.enc2, List.length_append]
  omega
theorem encs_len : ∀ (l : List Sd), (∀ s ∈ l, s.h.length = 32) → (l.flatMap Sd.enc2).length ≤ 48 * l.length
  | [], _ => by simp
  | s :: l, h => by
    have h1 := s.enc2_len (h s List.mem_cons_self)
    have h2 := encs_len l (fun x hx => h x (List.mem_cons_of_mem _ hx))
    rw [List.flatMap_cons, List.length_append, List.length_cons]
    omega
theorem encs_succ (l : List Sd) (k : Nat) (s : Sd) (h : l[k]? = some s) : (l.take (k + 1)).flatMap Sd.enc2 = (l.take k).flatMap Sd.enc2 ++ s.enc2 := by
  obtain ⟨h3, h4⟩ := List.getElem?_eq_some_iff.1 h
  rw [List.take_succ_eq_append_getElem h3, List.flatMap_append, h4]
  simp
/-- A writer stays what it is while a block of another type is written. -/
theorem writer_grown {base b g : Nat} {w w' : World} {bs : List UInt8} {bad : Bool} {cs : Array Value} {ty : TypeId} (h : WriterIs base w b bs bad) (gr : w.grownBy w' (some g)) (hg : Blk w g cs ty) (h1 : ty ≠ 5 := by decide) (h2 : ty ≠ 196 := by decide) : WriterIs base w' b bs bad := by
  obtain ⟨h0, v, h3, h4⟩ := h
  have hne : b ≠ g := fun e => by
    subst e
    unfold Blk at h3 hg
    rw [h3] at hg
    simp at hg
    exact h2 hg.2.symm
  exact ⟨h0, v, h3.grown gr (by simpa using hne), h4.kept gr (.inr (own_ne h4 hg (Ne.symm h1)))⟩
set_option maxHeartbeats 4000000 in
set_option maxRecDepth 100000 in
theorem Pack_calls (r B : Nat) (l : List Sd) (w : World) (h : RowAt w r B l) (hB : B ≤ 32) (hok : RowOk B l) :
    Calls Try.prog 79 #[.pointer (some ⟨r, 0, none⟩)] w fun e w' => e = .returned (.string (str (packB l))) ∧ Below w.heap.size w w' := by
  obtain ⟨v0, h1, h2⟩ := h
  obtain ⟨ao, c, rfl, hc⟩ := h2.slice
  have H1 := Lib.hid h1
  have H2 := Lib.hid h2
  have HOK := Lib.hid hok.1
  have hn := hok.2
  obtain ⟨n, hne⟩ : ∃ n, n = l.length := ⟨_, rfl⟩
  rw [← hne] at hc hn H1 H2
  have HN := Lib.hid hne
  clear h1 h2 hok hne
  go_enter Try.func79, Try.ntmps79
  go_wp2_with fail
  refine (New_calls _).mono ?_
  rintro e w1 ⟨rfl, hW1, b1⟩
  have hc1 := (H1.out.below b1 H1.out.lt).cell 1 _ rfl
  have HW1 := Lib.hid hW1
  clear hW1
  go_wp2_with fail
  refine (num_calls w.heap.size w.heap.size [] false n w1 HW1.out b1.size (by simp) (by omega) (by omega)).mono ?_
  rintro e w2 ⟨rfl, hW2, k2⟩
  have b2 := b1.trans k2.below
  have HW2 := Lib.hid hW2
  have hc2 := (H1.out.below b2 H1.out.lt).cell 1 _ rfl
  clear hW2 k2 b1 HW1 hc1
  go_wp2_with fail
  have HB2 := Lib.hid b2
  clear b2
  go_loopw [23] (fun i wr => ∃ (k : Nat), k ≤ n ∧ i = .int .i64 k ∧ Hid (WriterIs w.heap.size wr w.heap.size (numB n ++ (l.take k).flatMap Sd.enc2) false) ∧ Hid (Below w.heap.size w wr)) (fun i _ => n - (intOf i).toNat)
  case atStart => exact ⟨0, by omega, rfl, Lib.hid (by simpa using HW2.out), HB2.out⟩
  case round =>
    obtain ⟨k, hk, rfl, hW, hB⟩ := hrel
    clear hc2 HW2 HB2
    have h2 := H2.out.below hB.out
    have hen := encs_len (l.take k) (fun s hs => h2.1 s (List.mem_of_mem_take hs))
    have hlk : (l.take k).length = k := by rw [List.length_take, ← HN.out]; omega
    have hnb := numB_len n
    have hbs : (numB n ++ (l.take k).flatMap Sd.enc2).length ≤ 100000000 := by rw [List.length_append]; omega
    obtain ⟨bs, hbs2⟩ : ∃ bs, bs = numB n ++ (l.take k).flatMap Sd.enc2 := ⟨_, rfl⟩
    rw [← hbs2] at hbs hW
    have HBS := Lib.hid hbs2
    clear hbs2 hen hlk hnb
    by_cases hlt : k < n
    · obtain ⟨g, rfl⟩ : ∃ g, ao = some ⟨g, 0, none⟩ := by
        have hn1 := HN.out
        rcases h2.2 with ⟨h3, h4⟩ | ⟨g, c', h3, h4, h5⟩
        · rw [h4] at hn1; simp at hn1; omega
        · simp at h3; exact ⟨g, h3.1⟩
      obtain ⟨s, hs⟩ : ∃ s, l[k]? = some s := ⟨l[k]'(by rw [← HN.out]; exact hlt), List.getElem?_eq_getElem _⟩
      have hs32 : s.h.length = 32 := h2.1 s (List.mem_of_getElem? hs)
      have hsok := HOK.out s (List.mem_of_getElem? hs)
      have hp32 : 2 ^ s.lv ≤ 2 ^ 32 := Nat.pow_le_pow_right (by omega) (by omega)
      have hsl : s.lv ≤ 32 := by omega
      have hsp : s.pl < 4294967296 := by omega
      have hrg := h2.range k s hs
      rw [Nat.mul_comm] at hrg
      have HS := Lib.hid hs32
      have HRG := Lib.hid hrg
      have hnx : Hid (numB n ++ (l.take (k + 1)).flatMap Sd.enc2 = bs ++ numB s.lv ++ numB s.pl ++ s.h) := by
        show _ = _
        rw [encs_succ l k s hs, HBS.out, Sd.enc2]
        simp
      have hN := Blk.new wr z34.toArray 138
      have hb2 := hB.out.alloc hB.out.size (.cells z34.toArray 138)
      have hW2 := Lib.hid (hW.out.alloc (.cells z34.toArray 138))
      have hws := hB.out.size
      have hl1 := numB_len s.lv
      have hl2 := numB_len s.pl
      clear hrg hs32 hs h2 hsok hp32 HOK HBS
      go_wp2_with (first | ((with_reducible show wpList _ _ _ (⟨some 26, _, _, _, _, _⟩ :: _) _ _); refine wpList_load_mid rfl 138 (.tmp 25) rfl g (k * 34) (by rfl) s.cells _ HRG.out Try.underlying138 rfl (by rw [Sd.cells_len s HS.out]; exact Try.sizeSeed) ?_) | ((with_reducible show wpList _ _ _ (⟨none, Op.store _ (.tmp 5) _, _, _, _, _⟩ :: _) _ _); refine wpList_storeBlk rfl 138 (.tmp 5) (.tmp 26) rfl wr.heap.size s.cells.toArray (by rfl) (by rfl) _ _ hN (by rw [List.size_toArray, Sd.cells_len s HS.out]; exact Try.sizeSeed) (by rw [show s.cells.toArray.size = 34 from by rw [List.size_toArray]; exact Sd.cells_len s HS.out]; rfl) s.cells_all ?_; intro w3 hS3 g3; have hb3 : Below w.heap.size w w3 := below_new hb2 g3 hws hb2.size; have hW3 := Lib.hid (writer_grown hW2.out g3 hN); have hcl0 := hS3.cell 0 _ (show s.cells.toArray[0]? = some (.int .i64 s.lv) from rfl); have hws3 := hb3.size; clear hN hb2 g3 hW2))
      have hS3b := Lib.hid hS3
      clear hS3
      refine (num_calls w.heap.size w.heap.size bs false s.lv w3 hW3.out hws3 (by omega) (by omega) (by omega)).mono ?_
      rintro e w4 ⟨rfl, hW4, k4⟩
      have hS4 := hS3b.out.typed k4.typed (by decide)
      have hb4 := hb3.trans k4.below
      have hcl1 := hS4.cell 1 _ (show s.cells.toArray[1]? = some (.int .i64 s.pl) from rfl)
      have HW4 := Lib.hid hW4
      have HS4 := Lib.hid hS4
      have hws4 := hb4.size
      clear hW4 hS4 hS3b hW3 hcl0 k4 hb3
      go_wp2_with fail
      refine (num_calls w.heap.size w.heap.size _ false s.pl w4 HW4.out hws4 (by rw [List.length_append]; simp; omega) (by omega) (by omega)).mono ?_
      rintro e w5 ⟨rfl, hW5, k5⟩
      have hS5 := Lib.hid (HS4.out.typed k5.typed (by decide))
      have hb5 := hb4.trans k5.below
      have HW5 := Lib.hid hW5
      have hws5 := hb5.size
      clear hW5 HS4 HW4 hcl1 k5 hb4
      go_wp2_with ((with_reducible show wpList _ _ _ (⟨some 37, _, _, _, _, _⟩ :: _) _ _); refine wpList_load_mid rfl 23 (.tmp 36) rfl wr.heap.size 2 (by rfl) (s.h.map bv) _ (sd_range hS5.out) Try.underlying23 rfl (by rw [List.length_map, HS.out]; exact Try.sizeHash) ?_)
      refine (hash_calls w.heap.size w.heap.size _ s.h false w5 HW5.out hws5 (by rw [List.length_append, List.length_append]; simp; omega) HS.out).mono ?_
      rintro e w6 ⟨rfl, hW6, k6⟩
      have hb6 := Lib.hid (hb5.trans k6.below)
      have HW6 := Lib.hid hW6
      clear hW6 HW5 hS5 k6 hb5
      go_wp2_with fail
      go_roundw
      case rel => exact ⟨k + 1, by omega, by go_num, Lib.hid (by rw [hnx.out]; simpa using HW6.out), hb6.out⟩
      case measure => simp [intOf]; omega
    · have hke : k = n := by omega
      have hfin : Hid (bs = packB l) := by
        show _ = _
        rw [HBS.out, hke, HN.out, List.take_length]; rfl
      clear HBS h2
      go_wp2_with fail
      refine (endOk_calls w.heap.size w.heap.size bs wr hW.out).mono ?_
      rintro e w9 ⟨rfl, rfl⟩
      go_wp2_with fail
      go_returns
      rw [hfin.out]
      exact ⟨rfl, hB.out⟩
end Go.Proofs.Ytnfegmcdljejnaa
