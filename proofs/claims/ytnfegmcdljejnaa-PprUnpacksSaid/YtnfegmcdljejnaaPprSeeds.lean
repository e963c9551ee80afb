/-
  ppr: Seeds.
  Slices of digests, as they lie in memory.
-/
import Derived.Test.YtnfegmcdljejnaaPprWalk
set_option linter.unusedSimpArgs false
set_option linter.unusedVariables false
namespace Go.Proofs.Ytnfegmcdljejnaa
open Go.RowKit

theorem Try.infoHash : (Try.prog.info? 23).map (fun i => (i.zero, i.size, i.bytes)) = some (some (.agg Z32), 32, 32) := by kernel_rfl
theorem SeedsNil_calls (w : World) : Calls Try.prog 39 #[.pointer none] w fun e w' => e = .returned (.slice none 0 0) ∧ Below w.heap.size w w' := by
  go_enter Try.func39, Try.ntmps39
  go_wp2
  go_returns
  exact ⟨rfl, Below.refl _ _⟩
set_option maxHeartbeats 4000000 in
set_option maxRecDepth 100000 in
theorem Seeds_calls (r B : Nat) (l : List Sd) (w : World) (h : RowAt w r B l) (hn : l.length ≤ 1000000) :
    Calls Try.prog 39 #[.pointer (some ⟨r, 0, none⟩)] w fun e w' => ∃ v, e = .returned v ∧ w'.ownsRow w.heap.size 23 32 v l.length (l.flatMap fun s => s.h.map bv) ∧ Below w.heap.size w w' := by
  obtain ⟨v0, h1, h2⟩ := h
  obtain ⟨ao, c, rfl, hc⟩ := h2.slice
  have hc1 := h1.cell 1 _ rfl
  have H1 := Lib.hid h1
  have H2 := Lib.hid h2
  obtain ⟨i0, hi0, hiz, his, hib⟩ := info_parts Try.infoHash
  have HII := Lib.hid (⟨hi0, hiz, his, hib⟩ : _ ∧ _ ∧ _ ∧ _)
  clear h1 h2 hi0 hiz his hib
  go_enter Try.func39, Try.ntmps39
  go_wp2_with fail
  go_loopw [3, 13] (fun x i wr => ∃ (k : Nat) (v : Value), k ≤ l.length ∧ x = v ∧ i = .int .i64 k ∧ Hid (wr.ownsRow w.heap.size 23 32 v k ((l.take k).flatMap fun s => s.h.map bv)) ∧ Hid (Below w.heap.size w wr)) (fun _ i _ => l.length - (intOf i).toNat)
  case atStart => exact ⟨0, _, by omega, rfl, rfl, World.ownsRow_nil _ _ _ _, Below.refl _ _⟩
  case round =>
    obtain ⟨k, v, hk, rfl, rfl, hO, hB⟩ := hrel
    clear hc1
    have h2 := H2.out.below hB.out
    by_cases hlt : k < l.length
    · obtain ⟨g, rfl⟩ : ∃ g, ao = some ⟨g, 0, none⟩ := by
        rcases h2.2 with ⟨h3, h4⟩ | ⟨g, c', h3, h4, h5⟩
        · rw [h4] at hlt; simp at hlt
        · simp at h3; exact ⟨g, h3.1⟩
      obtain ⟨s, hs⟩ : ∃ s, l[k]? = some s := ⟨l[k], List.getElem?_eq_getElem hlt⟩
      have hs32 : s.h.length = 32 := h2.1 s (List.mem_of_getElem? hs)
      have hrg := h2.range k s hs
      rw [Nat.mul_comm] at hrg
      have HS := Lib.hid hs32
      have HRG := Lib.hid hrg
      have hnx : Hid (((l.take (k + 1)).flatMap fun s => s.h.map bv) = ((l.take k).flatMap fun s => s.h.map bv) ++ s.h.map bv) := by
        show _ = _
        obtain ⟨h3, h4⟩ := List.getElem?_eq_some_iff.1 hs
        rw [List.take_succ_eq_append_getElem h3, List.flatMap_append, h4]
        simp
      have hN := Blk.new wr z34.toArray 138
      have hb2 := hB.out.alloc hB.out.size (.cells z34.toArray 138)
      have hO2 := Lib.hid (hO.out.alloc (.cells z34.toArray 138))
      have hws := hB.out.size
      clear hrg hs32 hs h2
      go_wp2_with (first | ((with_reducible show wpList _ _ _ (⟨some 16, _, _, _, _, _⟩ :: _) _ _); refine wpList_load_mid rfl 138 (.tmp 15) rfl g (k * 34) (by rfl) s.cells _ HRG.out Try.underlying138 rfl (by rw [Sd.cells_len s HS.out]; exact Try.sizeSeed) ?_) | ((with_reducible show wpList _ _ _ (⟨none, Op.store _ (.tmp 5) _, _, _, _, _⟩ :: _) _ _); refine wpList_storeBlk rfl 138 (.tmp 5) (.tmp 16) rfl wr.heap.size s.cells.toArray (by rfl) (by rfl) _ _ hN (by rw [List.size_toArray, Sd.cells_len s HS.out]; exact Try.sizeSeed) (by rw [show s.cells.toArray.size = 34 from by rw [List.size_toArray]; exact Sd.cells_len s HS.out]; rfl) s.cells_all ?_; intro w3 hS3 g3; have hb3 : Below w.heap.size w w3 := below_new hb2 g3 hws hb2.size; have hO3 := Lib.hid (hO2.out.kept g3 (.inr (own_ne hO2.out hN (by decide)))); clear hN hb2 g3 hO2) | ((with_reducible show wpList _ _ _ (⟨some 19, _, _, _, _, _⟩ :: _) _ _); refine wpList_load_mid rfl 23 (.tmp 18) rfl wr.heap.size 2 (by rfl) (s.h.map bv) _ (sd_range hS3) Try.underlying23 rfl (by rw [List.length_map, HS.out]; exact Try.sizeHash) ?_) | ((with_reducible show wpList _ _ _ (⟨some 20, _, _, _, _, _⟩ :: _) _ _); refine wpList_bsOne rfl 49 23 (.tmp 19) rfl (s.h.map bv).toArray (by rfl) Try.underlying49 _ 32 Try.zsHash (by rw [bv_size]; exact HS.out) (by omega) (by omega) ?_) | ((with_reducible show wpList _ _ _ (⟨some 21, _, _, _, _, _⟩ :: _) _ _); refine wpList_append_own _ rfl _ _ 49 rfl w.heap.size 23 i0 (.agg Z32) 32 32 Try.underlying49 HII.out.1 HII.out.2.1 HII.out.2.2.1 HII.out.2.2.2 rfl (by decide) _ _ _ rfl (hO3.out.alloc _) ⟨w3.heap.size, 0, none⟩ 1 1 (s.h.map bv) rfl (by rw [List.length_map, HS.out]) (fun j u hj => by rw [Addr.add_lit, Nat.zero_add]; exact (Blk.new _ _ _).cell j u (by rw [List.getElem?_toArray]; exact hj)) (bv_one _) (by unfold maxLen; omega) (by omega) (by have := hb3.size; simp; omega) ?_))
      intro v4 w4 hO4 g4 _
      have HO4 := Lib.hid hO4
      have hb4 := Lib.hid ((hb3.alloc hb3.size (.cells (s.h.map bv).toArray 23)).grown g4 (by have := hb3.size; simp; omega) (fun q e => (hO3.out.lt q e).1))
      clear hO4 g4 hO3 hb3 hS3
      go_wp2_with fail
      go_roundw
      case rel => exact ⟨k + 1, _, by omega, rfl, by go_num, by rw [hnx.out]; exact HO4.out, hb4.out⟩
      case measure => simp [intOf]; omega
    · have hke : k = l.length := by omega
      have hO2 : Hid (wr.ownsRow w.heap.size 23 32 u3 l.length (l.flatMap fun s => s.h.map bv)) := by
        have := hO.out
        rw [hke, List.take_length] at this
        exact this
      clear hO
      go_wp2_with fail
      go_returns
      exact ⟨_, rfl, hO2.out, hB.out⟩
end Go.Proofs.Ytnfegmcdljejnaa
set_option linter.unusedSimpArgs false
set_option linter.unusedVariables false
namespace Go.Proofs.Ytnfegmcdljejnaa
open Go.RowKit

def HashesAt (w : World) (v : Value) (l : List (List UInt8)) : Prop :=
  (∀ h ∈ l, h.length = 32) ∧ ((v = .slice none 0 0 ∧ l = []) ∨ ∃ g o c, v = .slice (some ⟨g, o, none⟩) l.length c ∧ l.length ≤ c ∧ g < w.heap.size ∧ ∀ j u, (l.flatMap (·.map bv))[j]? = some u → w.cell? ⟨g, o + j, none⟩ = some u)
theorem HashesAt.below {w w' : World} {v : Value} {l : List (List UInt8)} (h : HashesAt w v l) (b : Below w.heap.size w w') : HashesAt w' v l := by
  refine ⟨h.1, ?_⟩
  rcases h.2 with h0 | ⟨g, o, c, rfl, hc, hlt, hcell⟩
  · exact .inl h0
  · exact .inr ⟨g, o, c, rfl, hc, Nat.lt_of_lt_of_le hlt b.size, fun j u hj => (b.cell (p := ⟨g, o + j, none⟩) hlt).trans (hcell j u hj)⟩
theorem HashesAt.slice {w : World} {v : Value} {l : List (List UInt8)} (h : HashesAt w v l) : ∃ ao c, v = .slice ao l.length c ∧ l.length ≤ c := by
  rcases h.2 with ⟨rfl, rfl⟩ | ⟨g, o, c, rfl, hc, _⟩
  · exact ⟨_, _, rfl, Nat.le_refl _⟩
  · exact ⟨_, _, rfl, hc⟩
theorem hashes_at : ∀ (l : List (List UInt8)) (i : Nat) (s : List UInt8) (j : Nat), (∀ s ∈ l, s.length = 32) → l[i]? = some s → j < 32 → (l.flatMap (·.map bv))[32 * i + j]? = (s.map bv)[j]?
  | [], i, s, j, _, h, _ => by simp at h
  | t :: l, 0, s, j, hl, h, hj => by
    obtain rfl : t = s := by simpa using h
    rw [List.flatMap_cons, List.getElem?_append_left (by rw [List.length_map, hl t List.mem_cons_self]; omega), Nat.mul_zero, Nat.zero_add]
  | t :: l, i + 1, s, j, hl, h, hj => by
    have h32 := hl t List.mem_cons_self
    rw [List.flatMap_cons, List.getElem?_append_right (by rw [List.length_map]; omega), List.length_map, h32, show 32 * (i + 1) + j - 32 = 32 * i + j by omega]
    exact hashes_at l i s j (fun s hs => hl s (List.mem_cons_of_mem _ hs)) (by simpa using h) hj
/-- Where the digest k lies. -/
theorem HashesAt.range {w : World} {ao : Option Addr} {n c : Nat} {l : List (List UInt8)} (h : HashesAt w (.slice ao n c) l) (i : Nat) (s : List UInt8) (hi : l[i]? = some s) : ∃ g o, ao = some ⟨g, o, none⟩ ∧ w.rangeAt g (o + i * 32) (s.map bv) := by
  rcases h.2 with ⟨h0, rfl⟩ | ⟨g, o, c', he, _, hlt, hcell⟩
  · simp at hi
  · simp only [Value.slice.injEq] at he
    refine ⟨g, o, he.1, fun j u hj => ?_⟩
    have hs : s.length = 32 := h.1 s (List.mem_of_getElem? hi)
    have hj32 : j < 32 := by have := (List.getElem?_eq_some_iff.1 hj).1; rw [List.length_map, hs] at this; exact this
    have := hcell (32 * i + j) u (by rw [hashes_at l i s j h.1 hi hj32]; exact hj)
    rwa [show o + (32 * i + j) = o + i * 32 + j by omega] at this
theorem HashesAt.range' {w : World} {g o n c : Nat} {l : List (List UInt8)} (h : HashesAt w (.slice (some ⟨g, o, none⟩) n c) l) (i : Nat) (s : List UInt8) (hi : l[i]? = some s) : w.rangeAt g (o + i * 32) (s.map bv) := by
  obtain ⟨g', o', he, hr⟩ := h.range i s hi
  simp only [Option.some.injEq, Addr.mk.injEq] at he
  obtain ⟨rfl, rfl, _⟩ := he
  exact hr
theorem HashesAt.own {w : World} {e : TypeId} {base n : Nat} {v : Value} {l : List (List UInt8)} (h : w.ownsRow base e 32 v n (l.flatMap (·.map bv))) (hl : ∀ s ∈ l, s.length = 32) (hn : n = l.length) : HashesAt w v l := by
  subst hn
  refine ⟨hl, ?_⟩
  rcases h.2 with ⟨h0, h1⟩ | ⟨g, cap, cur, rfl, hb, hg, h1, h2, h3, h4⟩
  · exact .inl ⟨h0, List.eq_nil_of_length_eq_zero h1⟩
  · refine .inr ⟨g, 0, cap, rfl, h1, lt_of_block hg, fun j u hj => ?_⟩
    have hlt : j < l.length * 32 := by
      have := (List.getElem?_eq_some_iff.1 hj).1
      rw [h.1] at this; exact this
    have e : (cur.toList.take (l.length * 32))[j]? = some u := by rw [h4]; exact hj
    rw [List.getElem?_take_of_lt hlt] at e
    have : cur[j]? = some u := by simpa using e
    simp [World.cell?, hg, this]
theorem shl1 (B : Nat) (h : B ≤ 32) : IntKind.u64.wrap ((2 : Int) ^ B) = ((2 ^ B : Nat) : Int) := by
  have hpow : (2 ^ B : Nat) ≤ 4294967296 := Nat.pow_le_pow_right (n := 2) (by omega) h
  have : ((2 : Int) ^ B) = ((2 ^ B : Nat) : Int) := by simp
  rw [this]
  generalize (2 ^ B : Nat) = N at hpow
  unfold IntKind.wrap
  simp [IntKind.bits, IntKind.signed]
  omega
theorem u64_nat (p : Int) : ∃ u : Nat, IntKind.u64.wrap p = (u : Int) ∧ u < 18446744073709551616 := by
  refine ⟨(p % 18446744073709551616).toNat, ?_, by omega⟩
  unfold IntKind.wrap
  simp [IntKind.bits, IntKind.signed]
  omega
end Go.Proofs.Ytnfegmcdljejnaa
