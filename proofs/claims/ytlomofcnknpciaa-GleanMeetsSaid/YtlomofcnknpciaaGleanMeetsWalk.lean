/-
  GleanMeets: who wants what it lacks, and is given it, has it all.
-/
import Derived.Test.YtlomofcnknpciaaGleanMeetLaw
import Derived.Test.YtlomofcnknpciaaGleanRTell
import Derived.Test.YtlomofcnknpciaaGleanGive
import Derived.Test.YtlomofcnknpciaaGleanKnown
import Derived.Test.YtlomofcnknpciaaGleanAw
import Derived.Test.YtlomofcnknpciaaBookOpen
import Derived.WalkLawsBesides
import Derived.Outline
import Derived.Handy
import Derived.Deep.RegionHeld
set_option linter.unusedSimpArgs false
set_option linter.unusedVariables false
namespace Go.Proofs.Ytlomofcnknpciaa
open Go.RowKit

/-- What the first loop has looked at. -/
structure FineI (l : List Kn) : Prop where
  text : ∀ c ∈ l, c.s ≠ [] ∧ c.s.length ≤ 65536
  ids : (l.map (·.h)).Nodup
  texts : (l.map (·.s)).Nodup
theorem FineI.nil : FineI [] := ⟨(fun c h => by cases h), List.nodup_nil, List.nodup_nil⟩
theorem FineI.snoc {l : List Kn} {c : Kn} (F : FineI l) (h1 : c.s ≠ []) (h2 : c.s.length ≤ 65536) (h3 : ∀ y ∈ l, y.h ≠ c.h ∧ y.s ≠ c.s) : FineI (l ++ [c]) := by
  refine ⟨fun x hx => ?_, ?_, ?_⟩
  · rcases List.mem_append.1 hx with hx | hx
    · exact F.text x hx
    · rw [List.mem_singleton.1 hx]; exact ⟨h1, h2⟩
  · rw [List.map_append, List.nodup_append]
    refine ⟨F.ids, by simp, fun a ha b hb => ?_⟩
    obtain ⟨y, hy, rfl⟩ := List.mem_map.1 ha
    simp at hb
    rw [hb]; exact (h3 y hy).1
  · rw [List.map_append, List.nodup_append]
    refine ⟨F.texts, by simp, fun a ha b hb => ?_⟩
    obtain ⟨y, hy, rfl⟩ := List.mem_map.1 ha
    simp at hb
    rw [hb]; exact (h3 y hy).2
def ThereT (B : Bool) (x : Kn) (hv : List HsT) (L : List Kn) (i : Nat) : Prop := B = true ↔ x.h ∈ hv ∨ ∃ j c, j < i ∧ L[j]? = some c ∧ c.s = x.s
theorem ThereT.iff {B : Bool} {x : Kn} {hv : List HsT} {L : List Kn} {i : Nat} (h : ThereT B x hv L i) : B = true ↔ x.h ∈ hv ∨ ∃ j c, j < i ∧ L[j]? = some c ∧ c.s = x.s := h
theorem mem_take_ex {l : List Kn} {i : Nat} {y : Kn} (h : y ∈ l.take i) : ∃ j, j < i ∧ l[j]? = some y := by
  obtain ⟨j, hj⟩ := List.getElem?_of_mem h
  have hlt : j < i := by have := (List.getElem?_eq_some_iff.1 hj).1; rw [List.length_take] at this; omega
  exact ⟨j, hlt, by rwa [List.getElem?_take_of_lt hlt] at hj⟩
set_option maxHeartbeats 16000000 in
set_option maxRecDepth 100000 in
theorem walkGleanMeets {w0 : World} (v0 : Value) (all : List Kn) (h0 : KnAt w0 v0 all) (m0 : all.length ≤ maxLen) (v8 : Value) (hv : List HsT) (h8 : HashesAt w0 v8 hv) (m8 : hv.length ≤ maxLen) (w : World) (hw : w0 = w := by rfl) :
    Calls Try.prog 9 #[v0, v8] w fun e w' => e = .returned (.bool true) ∧ Below w.heap.size w w' := by
  subst hw
  obtain ⟨w, rfl⟩ : ∃ w : World, w = w0 := ⟨_, rfl⟩
  obtain ⟨ao8, c8, rfl, _⟩ := h8.slice
  have H8w := Lib.hid h8
  obtain ⟨p, hn8⟩ : ∃ n, n = hv.length := ⟨_, rfl⟩
  have HN8 := Lib.hid hn8
  rw [← hn8] at H8w m8 ⊢
  unfold maxLen at m8
  obtain ⟨ao0, cc, hv0⟩ := h0.slice
  subst hv0
  obtain ⟨n, hnn⟩ : ∃ n, n = all.length := ⟨_, rfl⟩
  have HN := Lib.hid hnn
  have H0w := Lib.hid h0
  have M0 := Lib.hid m0
  rw [← hnn] at H0w ⊢
  clear h8 hn8 h0 m0 hnn
  go_enter Try.func9, Try.ntmps9
  have hb0 := Below.refl w.heap.size w
  go_wp2_with fail
  refine (known_calls _ all _ H0w.out M0.out).mono ?_
  rintro e w1 ⟨b1, ⟨v1, rfl, h1, hl⟩ | ⟨v1, rfl⟩⟩
  · clear hb0
    go_wp2_with fail
    refine (awake19_calls _).mono ?_
    rintro e w2 ⟨rfl, b2⟩
    have hB2 := b1.trans (b2.mono b1.size)
    have H1 := Lib.hid (h1.below b2)
    have hln : n ≤ 400 := by have := HN.out; omega
    clear b1 b2 h1
    by_cases hn4 : 64 < n
    · go_wp2_with fail
      refine (awake19_calls _).mono ?_
      rintro e w3 ⟨rfl, b3⟩
      have hB3 := hB2.trans (b3.mono hB2.size)
      clear b3 hB2
      go_wp2_with fail
      go_returns
      exact ⟨rfl, hB3⟩
    by_cases hp4 : 400 < p
    · go_wp2_with fail
      refine (awake19_calls _).mono ?_
      rintro e w3 ⟨rfl, b3⟩
      have hB3 := hB2.trans (b3.mono hB2.size)
      clear b3 hB2
      go_wp2_with fail
      go_returns
      exact ⟨rfl, hB3⟩
    have H0 := Lib.hid (H0w.out.below hB2)
    have H8 := Lib.hid (H8w.out.below hB2)
    have HB2 := Lib.hid hB2
    have hb0 := Lib.hid (Below.refl w2.heap.size w2)
    clear hB2 H0w H8w hl
    go_wp2_with fail
    go_loopw [7] (fun iv wr => ∃ (i : Nat), i ≤ n ∧ iv = .int .i64 i ∧ Hid (FineI (all.take i)) ∧ Hid (Below w2.heap.size w2 wr)) (fun iv _ => n - (intOf iv).toNat)
    case atStart => exact ⟨0, by omega, rfl, Lib.hid (by simpa using FineI.nil), hb0⟩
    case round =>
      obtain ⟨i, hi, rfl, hF, hB⟩ := hrel
      clear hb0
      by_cases hlt : i < n
      · obtain ⟨c, hc⟩ : ∃ c, all[i]? = some c := ⟨_, List.getElem?_eq_getElem (by rw [← HN.out]; exact hlt)⟩
        obtain ⟨g, o, rfl, _⟩ := H0.out.range Kn.cells_len i c hc
        have HRC : Hid (∀ z, Below w2.heap.size w2 z → z.rangeAt g (o + i * 34) c.cells) := fun z hz => (H0.out.below hz).range' Kn.cells_len i c hc
        have H32 : Hid (c.h.length = 32) := c.hh
        have HCI := Lib.hid hc
        clear hc
        have hrg := HRC.out _ hB.out
        by_cases hs0 : c.s = []
        · have hse : c.s.isEmpty = true := by rw [hs0]; rfl
          clear hs0
          go_wp2_with ((with_reducible show wpList _ _ _ (⟨some 50, _, _, _, _, _⟩ :: _) _ _); refine wpList_load1 rfl 9 (.tmp 49) rfl g (o + i * 34 + 33) (by rfl) _ _ (kn_s hrg) Try.underlying9 rfl ?_)
          go_wp2_with fail
          go_returns
          exact ⟨rfl, HB2.out.trans (hB.out.mono HB2.out.size)⟩
        have hse : c.s.isEmpty = false := by cases h : c.s with | nil => exact absurd h hs0 | cons _ _ => rfl
        have HS0 := Lib.hid hs0
        clear hs0
        by_cases hle : 65536 < c.s.length
        · go_wp2_with (first | ((with_reducible show wpList _ _ _ (⟨some 50, _, _, _, _, _⟩ :: _) _ _); refine wpList_load1 rfl 9 (.tmp 49) rfl g (o + i * 34 + 33) (by rfl) _ _ (kn_s hrg) Try.underlying9 rfl ?_) | ((with_reducible show wpList _ _ _ (⟨some 57, _, _, _, _, _⟩ :: _) _ _); refine wpList_if (by rfl) (wp_load1 9 (.tmp 56) rfl g (o + i * 34 + 33) (by rfl) _ _ (kn_s hrg) Try.underlying9 rfl ?_)))
          go_wp2_with fail
          go_returns
          exact ⟨rfl, HB2.out.trans (hB.out.mono HB2.out.size)⟩
        go_wp2_with (first | ((with_reducible show wpList _ _ _ (⟨some 50, _, _, _, _, _⟩ :: _) _ _); refine wpList_load1 rfl 9 (.tmp 49) rfl g (o + i * 34 + 33) (by rfl) _ _ (kn_s hrg) Try.underlying9 rfl ?_) | ((with_reducible show wpList _ _ _ (⟨some 57, _, _, _, _, _⟩ :: _) _ _); refine wpList_if (by rfl) (wp_load1 9 (.tmp 56) rfl g (o + i * 34 + 33) (by rfl) _ _ (kn_s hrg) Try.underlying9 rfl ?_)))
        clear hrg
        have HLE : Hid (c.s.length ≤ 65536) := by show _ ≤ _; omega
        clear hle hse
        go_loopw [8] (fun kv wr => ∃ (k : Nat), k ≤ i ∧ kv = .int .i64 k ∧ Hid (∀ j y, j < k → all[j]? = some y → y.h ≠ c.h ∧ y.s ≠ c.s) ∧ Hid (Below w2.heap.size w2 wr)) (fun kv _ => i - (intOf kv).toNat)
        case atStart => exact ⟨0, by omega, rfl, Lib.hid (fun j y hj => by omega), hB⟩
        case round =>
          obtain ⟨k, hk, rfl, HK, hB'⟩ := hrel
          obtain ⟨wr2, rfl⟩ : ∃ z, z = wr := ⟨_, rfl⟩
          clear hB
          have hB := hB'
          clear hB'
          by_cases hki : k < i
          ·
            have hkn : k < n := by omega
            obtain ⟨y, hy⟩ : ∃ y, all[k]? = some y := ⟨_, List.getElem?_eq_getElem (by rw [← HN.out]; omega)⟩
            have HRY : Hid (∀ z, Below w2.heap.size w2 z → z.rangeAt g (o + k * 34) y.cells) := fun z hz => (H0.out.below hz).range' Kn.cells_len k y hy
            have HY32 : Hid (y.h.length = 32) := y.hh
            have hb3 := hB.out
            by_cases e1 : y.h = c.h
            · have HYH : Hid (∀ z, Below w2.heap.size w2 z → z.rangeAt g (o + k * 34) (c.h.map bv)) := fun z hz => e1 ▸ kn_h (HRY.out z hz)
              have hqe : ∀ x, (Op.equalIn 10000 23 (.agg (c.h.map bv).toArray) (.agg (c.h.map bv).toArray)).run Try.prog x = .ok true x := fun x => by rw [run_eq_hash x _ _ H32.out H32.out, beq_self_eq_true]
              clear hy hB e1 HRY
              go_wp2_with fail
              refine wp_region_held_drew (S := fun x => Below w2.heap.size w2 x) (by kernel_rfl) (below_drewN hb3 1) (fun hSq1 => ?_)
              refine wpAnyH_take (i := 0) (v := .slice (some ⟨g, o, none⟩) n cc) rfl (by kernel_rfl) (by kernel_rfl) (by kernel_rfl) (fun _ _ _ h => h) (Or.inl ⟨by rfl, fun x hx => by go_simp⟩) hSq1 ?_
              simp only [Act.put, List.getElem_toArray, List.getElem_cons_zero, List.getElem_cons_succ, List.setIfInBounds_toArray, List.set_cons_zero, List.set_cons_succ]
              refine wpAnyH_take (i := 1) (v := .int .i64 k) rfl (by kernel_rfl) (by kernel_rfl) (by kernel_rfl) (fun _ _ _ h => h) (Or.inl ⟨by rfl, fun x hx => by go_simp⟩) hSq1 ?_
              simp only [Act.put, List.getElem_toArray, List.getElem_cons_zero, List.getElem_cons_succ, List.setIfInBounds_toArray, List.set_cons_zero, List.set_cons_succ]
              refine wpAnyH_take (i := 2) (v := .pointer (some ⟨g, o + k * 34, none⟩)) rfl (by kernel_rfl) (by kernel_rfl) (by kernel_rfl) (fun _ _ _ h => h) (Or.inl ⟨by rfl, fun x hx => by go_simp⟩) hSq1 ?_
              simp only [Act.put, List.getElem_toArray, List.getElem_cons_zero, List.getElem_cons_succ, List.setIfInBounds_toArray, List.set_cons_zero, List.set_cons_succ]
              refine wpAnyH_take (i := 3) (v := .pointer (some ⟨g, o + k * 34, none⟩)) rfl (by kernel_rfl) (by kernel_rfl) (by kernel_rfl) (fun _ _ _ h => h) (Or.inl ⟨by rfl, fun x hx => by go_simp⟩) hSq1 ?_
              simp only [Act.put, List.getElem_toArray, List.getElem_cons_zero, List.getElem_cons_succ, List.setIfInBounds_toArray, List.set_cons_zero, List.set_cons_succ]
              refine wpAnyH_take (i := 4) rfl (by kernel_rfl) (by kernel_rfl) (by kernel_rfl) (fun _ _ _ h => h) (yieldsIf_load_mid (by rfl) 23 (.tmp 69) rfl (g) (o + k * 34) (by rfl) (c.h.map bv) _ (fun x hx => HYH.out _ hx) Try.underlying23 rfl (by rw [List.length_map, H32.out]; exact Try.sizeHash)) hSq1 ?_
              simp only [Act.put, List.getElem_toArray, List.getElem_cons_zero, List.getElem_cons_succ, List.setIfInBounds_toArray, List.set_cons_zero, List.set_cons_succ]
              refine wpAnyH_take (i := 5) (v := .slice (some ⟨g, o, none⟩) n cc) rfl (by kernel_rfl) (by kernel_rfl) (by kernel_rfl) (fun _ _ _ h => h) (Or.inl ⟨by rfl, fun x hx => by go_simp⟩) hSq1 ?_
              simp only [Act.put, List.getElem_toArray, List.getElem_cons_zero, List.getElem_cons_succ, List.setIfInBounds_toArray, List.set_cons_zero, List.set_cons_succ]
              refine wpAnyH_take (i := 6) (v := .int .i64 i) rfl (by kernel_rfl) (by kernel_rfl) (by kernel_rfl) (fun _ _ _ h => h) (Or.inl ⟨by rfl, fun x hx => by go_simp⟩) hSq1 ?_
              simp only [Act.put, List.getElem_toArray, List.getElem_cons_zero, List.getElem_cons_succ, List.setIfInBounds_toArray, List.set_cons_zero, List.set_cons_succ]
              refine wpAnyH_take (i := 7) (v := .pointer (some ⟨g, o + i * 34, none⟩)) rfl (by kernel_rfl) (by kernel_rfl) (by kernel_rfl) (fun _ _ _ h => h) (Or.inl ⟨by rfl, fun x hx => by go_simp⟩) hSq1 ?_
              simp only [Act.put, List.getElem_toArray, List.getElem_cons_zero, List.getElem_cons_succ, List.setIfInBounds_toArray, List.set_cons_zero, List.set_cons_succ]
              refine wpAnyH_take (i := 8) (v := .pointer (some ⟨g, o + i * 34, none⟩)) rfl (by kernel_rfl) (by kernel_rfl) (by kernel_rfl) (fun _ _ _ h => h) (Or.inl ⟨by rfl, fun x hx => by go_simp⟩) hSq1 ?_
              simp only [Act.put, List.getElem_toArray, List.getElem_cons_zero, List.getElem_cons_succ, List.setIfInBounds_toArray, List.set_cons_zero, List.set_cons_succ]
              refine wpAnyH_take (i := 9) rfl (by kernel_rfl) (by kernel_rfl) (by kernel_rfl) (fun _ _ _ h => h) (yieldsIf_load_mid (by rfl) 23 (.tmp 74) rfl (g) (o + i * 34) (by rfl) (c.h.map bv) _ (fun x hx => kn_h (HRC.out _ hx)) Try.underlying23 rfl (by rw [List.length_map, H32.out]; exact Try.sizeHash)) hSq1 ?_
              simp only [Act.put, List.getElem_toArray, List.getElem_cons_zero, List.getElem_cons_succ, List.setIfInBounds_toArray, List.set_cons_zero, List.set_cons_succ]
              refine wpAnyH_take (i := 10) (v := .bool true) rfl (by kernel_rfl) (by kernel_rfl) (by kernel_rfl) (fun _ _ _ h => h) (Or.inl ⟨by rfl, fun x hx => by go_simp⟩) hSq1 ?_
              simp only [Act.put, List.getElem_toArray, List.getElem_cons_zero, List.getElem_cons_succ, List.setIfInBounds_toArray, List.set_cons_zero, List.set_cons_succ]
              refine wpAnyH_take (i := 11) (v := .bool true) rfl (by kernel_rfl) (by kernel_rfl) (by kernel_rfl) (fun _ _ _ h => h) (Or.inl ⟨by rfl, fun x hx => by go_simp⟩) hSq1 ?_
              simp only [Act.put, List.getElem_toArray, List.getElem_cons_zero, List.getElem_cons_succ, List.setIfInBounds_toArray, List.set_cons_zero, List.set_cons_succ]
              refine wpAnyH_take (i := 12) (v := undef) rfl (by kernel_rfl) (by kernel_rfl) (by kernel_rfl) (fun _ _ _ h => h) (Or.inr ⟨by rfl, rfl⟩) hSq1 ?_
              simp only [Act.put, List.getElem_toArray, List.getElem_cons_zero, List.getElem_cons_succ, List.setIfInBounds_toArray, List.set_cons_zero, List.set_cons_succ]
              refine wpAnyH_take (i := 13) (v := undef) rfl (by kernel_rfl) (by kernel_rfl) (by kernel_rfl) (fun _ _ _ h => h) (Or.inr ⟨by rfl, rfl⟩) hSq1 ?_
              simp only [Act.put, List.getElem_toArray, List.getElem_cons_zero, List.getElem_cons_succ, List.setIfInBounds_toArray, List.set_cons_zero, List.set_cons_succ]
              refine wpAnyH_take (i := 14) (v := undef) rfl (by kernel_rfl) (by kernel_rfl) (by kernel_rfl) (fun _ _ _ h => h) (Or.inr ⟨by rfl, rfl⟩) hSq1 ?_
              simp only [Act.put, List.getElem_toArray, List.getElem_cons_zero, List.getElem_cons_succ, List.setIfInBounds_toArray, List.set_cons_zero, List.set_cons_succ]
              refine wpAnyH_take (i := 15) (v := undef) rfl (by kernel_rfl) (by kernel_rfl) (by kernel_rfl) (fun _ _ _ h => h) (Or.inr ⟨by rfl, rfl⟩) hSq1 ?_
              simp only [Act.put, List.getElem_toArray, List.getElem_cons_zero, List.getElem_cons_succ, List.setIfInBounds_toArray, List.set_cons_zero, List.set_cons_succ]
              refine wpAnyH_take (i := 16) (v := undef) rfl (by kernel_rfl) (by kernel_rfl) (by kernel_rfl) (fun _ _ _ h => h) (Or.inr ⟨by rfl, rfl⟩) hSq1 ?_
              simp only [Act.put, List.getElem_toArray, List.getElem_cons_zero, List.getElem_cons_succ, List.setIfInBounds_toArray, List.set_cons_zero, List.set_cons_succ]
              refine wpAnyH_take (i := 17) (v := undef) rfl (by kernel_rfl) (by kernel_rfl) (by kernel_rfl) (fun _ _ _ h => h) (Or.inr ⟨by rfl, rfl⟩) hSq1 ?_
              simp only [Act.put, List.getElem_toArray, List.getElem_cons_zero, List.getElem_cons_succ, List.setIfInBounds_toArray, List.set_cons_zero, List.set_cons_succ]
              refine wpAnyH_take (i := 18) (v := undef) rfl (by kernel_rfl) (by kernel_rfl) (by kernel_rfl) (fun _ _ _ h => h) (Or.inr ⟨by rfl, rfl⟩) hSq1 ?_
              simp only [Act.put, List.getElem_toArray, List.getElem_cons_zero, List.getElem_cons_succ, List.setIfInBounds_toArray, List.set_cons_zero, List.set_cons_succ]
              refine wpAnyH_take (i := 19) (v := undef) rfl (by kernel_rfl) (by kernel_rfl) (by kernel_rfl) (fun _ _ _ h => h) (Or.inr ⟨by rfl, rfl⟩) hSq1 ?_
              simp only [Act.put, List.getElem_toArray, List.getElem_cons_zero, List.getElem_cons_succ, List.setIfInBounds_toArray, List.set_cons_zero, List.set_cons_succ]
              refine wpAnyH_take (i := 20) (v := undef) rfl (by kernel_rfl) (by kernel_rfl) (by kernel_rfl) (fun _ _ _ h => h) (Or.inr ⟨by rfl, rfl⟩) hSq1 ?_
              simp only [Act.put, List.getElem_toArray, List.getElem_cons_zero, List.getElem_cons_succ, List.setIfInBounds_toArray, List.set_cons_zero, List.set_cons_succ]
              refine wpAnyH_take (i := 21) (v := undef) rfl (by kernel_rfl) (by kernel_rfl) (by kernel_rfl) (fun _ _ _ h => h) (Or.inr ⟨by rfl, rfl⟩) hSq1 ?_
              simp only [Act.put, List.getElem_toArray, List.getElem_cons_zero, List.getElem_cons_succ, List.setIfInBounds_toArray, List.set_cons_zero, List.set_cons_succ]
              refine wpAnyH_take (i := 22) (v := undef) rfl (by kernel_rfl) (by kernel_rfl) (by kernel_rfl) (fun _ _ _ h => h) (Or.inr ⟨by rfl, rfl⟩) hSq1 ?_
              simp only [Act.put, List.getElem_toArray, List.getElem_cons_zero, List.getElem_cons_succ, List.setIfInBounds_toArray, List.set_cons_zero, List.set_cons_succ]
              refine wpAnyH_take (i := 23) (v := .bool true) rfl (by kernel_rfl) (by kernel_rfl) (by kernel_rfl) (fun _ _ _ h => h) (Or.inl ⟨by rfl, fun x hx => by go_simp⟩) hSq1 ?_
              simp only [Act.put, List.getElem_toArray, List.getElem_cons_zero, List.getElem_cons_succ, List.setIfInBounds_toArray, List.set_cons_zero, List.set_cons_succ]
              refine wpAnyH_done (by kernel_rfl) ?_ _
              have hB9 := hSq1
              clear hSq1
              go_wp2_with fail
              go_returns
              exact ⟨rfl, HB2.out.trans (hB9.mono HB2.out.size)⟩
            have HYH : Hid (∀ z, Below w2.heap.size w2 z → z.rangeAt g (o + k * 34) (y.h.map bv)) := fun z hz => kn_h (HRY.out z hz)
            have hqe : ∀ x, (Op.equalIn 10000 23 (.agg (y.h.map bv).toArray) (.agg (c.h.map bv).toArray)).run Try.prog x = .ok false x := fun x => by rw [run_eq_hash x _ _ HY32.out H32.out, beq_false_of_ne e1]
            by_cases e2 : y.s = c.s
            · have HYS : Hid (∀ z, Below w2.heap.size w2 z → z.cell? ⟨g, o + k * 34 + 33, none⟩ = some (.string (str c.s))) := fun z hz => e2 ▸ kn_s (HRY.out z hz)
              clear hy hB e1 e2 HRY
              go_wp2_with fail
              refine wp_region_held_drew (S := fun x => Below w2.heap.size w2 x) (by kernel_rfl) (below_drewN hb3 1) (fun hSq2 => ?_)
              refine wpAnyH_take (i := 0) (v := .slice (some ⟨g, o, none⟩) n cc) rfl (by kernel_rfl) (by kernel_rfl) (by kernel_rfl) (fun _ _ _ h => h) (Or.inl ⟨by rfl, fun x hx => by go_simp⟩) hSq2 ?_
              simp only [Act.put, List.getElem_toArray, List.getElem_cons_zero, List.getElem_cons_succ, List.setIfInBounds_toArray, List.set_cons_zero, List.set_cons_succ]
              refine wpAnyH_take (i := 1) (v := .int .i64 k) rfl (by kernel_rfl) (by kernel_rfl) (by kernel_rfl) (fun _ _ _ h => h) (Or.inl ⟨by rfl, fun x hx => by go_simp⟩) hSq2 ?_
              simp only [Act.put, List.getElem_toArray, List.getElem_cons_zero, List.getElem_cons_succ, List.setIfInBounds_toArray, List.set_cons_zero, List.set_cons_succ]
              refine wpAnyH_take (i := 2) (v := .pointer (some ⟨g, o + k * 34, none⟩)) rfl (by kernel_rfl) (by kernel_rfl) (by kernel_rfl) (fun _ _ _ h => h) (Or.inl ⟨by rfl, fun x hx => by go_simp⟩) hSq2 ?_
              simp only [Act.put, List.getElem_toArray, List.getElem_cons_zero, List.getElem_cons_succ, List.setIfInBounds_toArray, List.set_cons_zero, List.set_cons_succ]
              refine wpAnyH_take (i := 3) (v := .pointer (some ⟨g, o + k * 34, none⟩)) rfl (by kernel_rfl) (by kernel_rfl) (by kernel_rfl) (fun _ _ _ h => h) (Or.inl ⟨by rfl, fun x hx => by go_simp⟩) hSq2 ?_
              simp only [Act.put, List.getElem_toArray, List.getElem_cons_zero, List.getElem_cons_succ, List.setIfInBounds_toArray, List.set_cons_zero, List.set_cons_succ]
              refine wpAnyH_take (i := 4) rfl (by kernel_rfl) (by kernel_rfl) (by kernel_rfl) (fun _ _ _ h => h) (yieldsIf_load_mid (by rfl) 23 (.tmp 69) rfl (g) (o + k * 34) (by rfl) (y.h.map bv) _ (fun x hx => HYH.out _ hx) Try.underlying23 rfl (by rw [List.length_map, HY32.out]; exact Try.sizeHash)) hSq2 ?_
              simp only [Act.put, List.getElem_toArray, List.getElem_cons_zero, List.getElem_cons_succ, List.setIfInBounds_toArray, List.set_cons_zero, List.set_cons_succ]
              refine wpAnyH_take (i := 5) (v := .slice (some ⟨g, o, none⟩) n cc) rfl (by kernel_rfl) (by kernel_rfl) (by kernel_rfl) (fun _ _ _ h => h) (Or.inl ⟨by rfl, fun x hx => by go_simp⟩) hSq2 ?_
              simp only [Act.put, List.getElem_toArray, List.getElem_cons_zero, List.getElem_cons_succ, List.setIfInBounds_toArray, List.set_cons_zero, List.set_cons_succ]
              refine wpAnyH_take (i := 6) (v := .int .i64 i) rfl (by kernel_rfl) (by kernel_rfl) (by kernel_rfl) (fun _ _ _ h => h) (Or.inl ⟨by rfl, fun x hx => by go_simp⟩) hSq2 ?_
              simp only [Act.put, List.getElem_toArray, List.getElem_cons_zero, List.getElem_cons_succ, List.setIfInBounds_toArray, List.set_cons_zero, List.set_cons_succ]
              refine wpAnyH_take (i := 7) (v := .pointer (some ⟨g, o + i * 34, none⟩)) rfl (by kernel_rfl) (by kernel_rfl) (by kernel_rfl) (fun _ _ _ h => h) (Or.inl ⟨by rfl, fun x hx => by go_simp⟩) hSq2 ?_
              simp only [Act.put, List.getElem_toArray, List.getElem_cons_zero, List.getElem_cons_succ, List.setIfInBounds_toArray, List.set_cons_zero, List.set_cons_succ]
              refine wpAnyH_take (i := 8) (v := .pointer (some ⟨g, o + i * 34, none⟩)) rfl (by kernel_rfl) (by kernel_rfl) (by kernel_rfl) (fun _ _ _ h => h) (Or.inl ⟨by rfl, fun x hx => by go_simp⟩) hSq2 ?_
              simp only [Act.put, List.getElem_toArray, List.getElem_cons_zero, List.getElem_cons_succ, List.setIfInBounds_toArray, List.set_cons_zero, List.set_cons_succ]
              refine wpAnyH_take (i := 9) rfl (by kernel_rfl) (by kernel_rfl) (by kernel_rfl) (fun _ _ _ h => h) (yieldsIf_load_mid (by rfl) 23 (.tmp 74) rfl (g) (o + i * 34) (by rfl) (c.h.map bv) _ (fun x hx => kn_h (HRC.out _ hx)) Try.underlying23 rfl (by rw [List.length_map, H32.out]; exact Try.sizeHash)) hSq2 ?_
              simp only [Act.put, List.getElem_toArray, List.getElem_cons_zero, List.getElem_cons_succ, List.setIfInBounds_toArray, List.set_cons_zero, List.set_cons_succ]
              refine wpAnyH_take (i := 10) (v := .bool false) rfl (by kernel_rfl) (by kernel_rfl) (by kernel_rfl) (fun _ _ _ h => h) (Or.inl ⟨by rfl, fun x hx => by go_simp⟩) hSq2 ?_
              simp only [Act.put, List.getElem_toArray, List.getElem_cons_zero, List.getElem_cons_succ, List.setIfInBounds_toArray, List.set_cons_zero, List.set_cons_succ]
              refine wpAnyH_take (i := 11) (v := .bool false) rfl (by kernel_rfl) (by kernel_rfl) (by kernel_rfl) (fun _ _ _ h => h) (Or.inl ⟨by rfl, fun x hx => by go_simp⟩) hSq2 ?_
              simp only [Act.put, List.getElem_toArray, List.getElem_cons_zero, List.getElem_cons_succ, List.setIfInBounds_toArray, List.set_cons_zero, List.set_cons_succ]
              refine wpAnyH_take (i := 12) (v := .slice (some ⟨g, o, none⟩) n cc) rfl (by kernel_rfl) (by kernel_rfl) (by kernel_rfl) (fun _ _ _ h => h) (Or.inl ⟨by rfl, fun x hx => by go_simp⟩) hSq2 ?_
              simp only [Act.put, List.getElem_toArray, List.getElem_cons_zero, List.getElem_cons_succ, List.setIfInBounds_toArray, List.set_cons_zero, List.set_cons_succ]
              refine wpAnyH_take (i := 13) (v := .int .i64 k) rfl (by kernel_rfl) (by kernel_rfl) (by kernel_rfl) (fun _ _ _ h => h) (Or.inl ⟨by rfl, fun x hx => by go_simp⟩) hSq2 ?_
              simp only [Act.put, List.getElem_toArray, List.getElem_cons_zero, List.getElem_cons_succ, List.setIfInBounds_toArray, List.set_cons_zero, List.set_cons_succ]
              refine wpAnyH_take (i := 14) (v := .pointer (some ⟨g, o + k * 34, none⟩)) rfl (by kernel_rfl) (by kernel_rfl) (by kernel_rfl) (fun _ _ _ h => h) (Or.inl ⟨by rfl, fun x hx => by go_simp⟩) hSq2 ?_
              simp only [Act.put, List.getElem_toArray, List.getElem_cons_zero, List.getElem_cons_succ, List.setIfInBounds_toArray, List.set_cons_zero, List.set_cons_succ]
              refine wpAnyH_take (i := 15) (v := .pointer (some ⟨g, o + k * 34 + 33, none⟩)) rfl (by kernel_rfl) (by kernel_rfl) (by kernel_rfl) (fun _ _ _ h => h) (Or.inl ⟨by rfl, fun x hx => by go_simp⟩) hSq2 ?_
              simp only [Act.put, List.getElem_toArray, List.getElem_cons_zero, List.getElem_cons_succ, List.setIfInBounds_toArray, List.set_cons_zero, List.set_cons_succ]
              refine wpAnyH_take (i := 16) (v := .string (str c.s)) rfl (by kernel_rfl) (by kernel_rfl) (by kernel_rfl) (fun _ _ _ h => h) (Or.inl ⟨by rfl, fun x hx => by have hc := HYS.out _ hx; go_simp⟩) hSq2 ?_
              simp only [Act.put, List.getElem_toArray, List.getElem_cons_zero, List.getElem_cons_succ, List.setIfInBounds_toArray, List.set_cons_zero, List.set_cons_succ]
              refine wpAnyH_take (i := 17) (v := .slice (some ⟨g, o, none⟩) n cc) rfl (by kernel_rfl) (by kernel_rfl) (by kernel_rfl) (fun _ _ _ h => h) (Or.inl ⟨by rfl, fun x hx => by go_simp⟩) hSq2 ?_
              simp only [Act.put, List.getElem_toArray, List.getElem_cons_zero, List.getElem_cons_succ, List.setIfInBounds_toArray, List.set_cons_zero, List.set_cons_succ]
              refine wpAnyH_take (i := 18) (v := .int .i64 i) rfl (by kernel_rfl) (by kernel_rfl) (by kernel_rfl) (fun _ _ _ h => h) (Or.inl ⟨by rfl, fun x hx => by go_simp⟩) hSq2 ?_
              simp only [Act.put, List.getElem_toArray, List.getElem_cons_zero, List.getElem_cons_succ, List.setIfInBounds_toArray, List.set_cons_zero, List.set_cons_succ]
              refine wpAnyH_take (i := 19) (v := .pointer (some ⟨g, o + i * 34, none⟩)) rfl (by kernel_rfl) (by kernel_rfl) (by kernel_rfl) (fun _ _ _ h => h) (Or.inl ⟨by rfl, fun x hx => by go_simp⟩) hSq2 ?_
              simp only [Act.put, List.getElem_toArray, List.getElem_cons_zero, List.getElem_cons_succ, List.setIfInBounds_toArray, List.set_cons_zero, List.set_cons_succ]
              refine wpAnyH_take (i := 20) (v := .pointer (some ⟨g, o + i * 34 + 33, none⟩)) rfl (by kernel_rfl) (by kernel_rfl) (by kernel_rfl) (fun _ _ _ h => h) (Or.inl ⟨by rfl, fun x hx => by go_simp⟩) hSq2 ?_
              simp only [Act.put, List.getElem_toArray, List.getElem_cons_zero, List.getElem_cons_succ, List.setIfInBounds_toArray, List.set_cons_zero, List.set_cons_succ]
              refine wpAnyH_take (i := 21) (v := .string (str c.s)) rfl (by kernel_rfl) (by kernel_rfl) (by kernel_rfl) (fun _ _ _ h => h) (Or.inl ⟨by rfl, fun x hx => by have hc := kn_s (HRC.out _ hx); go_simp⟩) hSq2 ?_
              simp only [Act.put, List.getElem_toArray, List.getElem_cons_zero, List.getElem_cons_succ, List.setIfInBounds_toArray, List.set_cons_zero, List.set_cons_succ]
              refine wpAnyH_take (i := 22) (v := .bool true) rfl (by kernel_rfl) (by kernel_rfl) (by kernel_rfl) (fun _ _ _ h => h) (Or.inl ⟨by rfl, fun x hx => by go_simp⟩) hSq2 ?_
              simp only [Act.put, List.getElem_toArray, List.getElem_cons_zero, List.getElem_cons_succ, List.setIfInBounds_toArray, List.set_cons_zero, List.set_cons_succ]
              refine wpAnyH_take (i := 23) (v := .bool true) rfl (by kernel_rfl) (by kernel_rfl) (by kernel_rfl) (fun _ _ _ h => h) (Or.inl ⟨by rfl, fun x hx => by go_simp⟩) hSq2 ?_
              simp only [Act.put, List.getElem_toArray, List.getElem_cons_zero, List.getElem_cons_succ, List.setIfInBounds_toArray, List.set_cons_zero, List.set_cons_succ]
              refine wpAnyH_done (by kernel_rfl) ?_ _
              have hB9 := hSq2
              clear hSq2
              go_wp2_with fail
              go_returns
              exact ⟨rfl, HB2.out.trans (hB9.mono HB2.out.size)⟩
            have HYS : Hid (∀ z, Below w2.heap.size w2 z → z.cell? ⟨g, o + k * 34 + 33, none⟩ = some (.string (str y.s))) := fun z hz => kn_s (HRY.out z hz)
            have HK5 : Hid (∀ j y, j < k + 1 → all[j]? = some y → y.h ≠ c.h ∧ y.s ≠ c.s) := fun j y' hj hy' => by
              by_cases hjk : j < k
              · exact HK.out j y' hjk hy'
              · obtain rfl : j = k := by omega
                rw [hy] at hy'
                obtain rfl := Option.some.inj hy'
                exact ⟨e1, e2⟩
            have hne1 : ¬ str y.s = str c.s := fun h => e2 (str_inj.1 h)
            have hne2 := e2
            clear hy hB e1 e2 HRY HK
            go_wp2_with fail
            refine wp_region_held_drew (S := fun x => Below w2.heap.size w2 x) (by kernel_rfl) (below_drewN hb3 1) (fun hSq3 => ?_)
            refine wpAnyH_take (i := 0) (v := .slice (some ⟨g, o, none⟩) n cc) rfl (by kernel_rfl) (by kernel_rfl) (by kernel_rfl) (fun _ _ _ h => h) (Or.inl ⟨by rfl, fun x hx => by go_simp⟩) hSq3 ?_
            simp only [Act.put, List.getElem_toArray, List.getElem_cons_zero, List.getElem_cons_succ, List.setIfInBounds_toArray, List.set_cons_zero, List.set_cons_succ]
            refine wpAnyH_take (i := 1) (v := .int .i64 k) rfl (by kernel_rfl) (by kernel_rfl) (by kernel_rfl) (fun _ _ _ h => h) (Or.inl ⟨by rfl, fun x hx => by go_simp⟩) hSq3 ?_
            simp only [Act.put, List.getElem_toArray, List.getElem_cons_zero, List.getElem_cons_succ, List.setIfInBounds_toArray, List.set_cons_zero, List.set_cons_succ]
            refine wpAnyH_take (i := 2) (v := .pointer (some ⟨g, o + k * 34, none⟩)) rfl (by kernel_rfl) (by kernel_rfl) (by kernel_rfl) (fun _ _ _ h => h) (Or.inl ⟨by rfl, fun x hx => by go_simp⟩) hSq3 ?_
            simp only [Act.put, List.getElem_toArray, List.getElem_cons_zero, List.getElem_cons_succ, List.setIfInBounds_toArray, List.set_cons_zero, List.set_cons_succ]
            refine wpAnyH_take (i := 3) (v := .pointer (some ⟨g, o + k * 34, none⟩)) rfl (by kernel_rfl) (by kernel_rfl) (by kernel_rfl) (fun _ _ _ h => h) (Or.inl ⟨by rfl, fun x hx => by go_simp⟩) hSq3 ?_
            simp only [Act.put, List.getElem_toArray, List.getElem_cons_zero, List.getElem_cons_succ, List.setIfInBounds_toArray, List.set_cons_zero, List.set_cons_succ]
            refine wpAnyH_take (i := 4) rfl (by kernel_rfl) (by kernel_rfl) (by kernel_rfl) (fun _ _ _ h => h) (yieldsIf_load_mid (by rfl) 23 (.tmp 69) rfl (g) (o + k * 34) (by rfl) (y.h.map bv) _ (fun x hx => HYH.out _ hx) Try.underlying23 rfl (by rw [List.length_map, HY32.out]; exact Try.sizeHash)) hSq3 ?_
            simp only [Act.put, List.getElem_toArray, List.getElem_cons_zero, List.getElem_cons_succ, List.setIfInBounds_toArray, List.set_cons_zero, List.set_cons_succ]
            refine wpAnyH_take (i := 5) (v := .slice (some ⟨g, o, none⟩) n cc) rfl (by kernel_rfl) (by kernel_rfl) (by kernel_rfl) (fun _ _ _ h => h) (Or.inl ⟨by rfl, fun x hx => by go_simp⟩) hSq3 ?_
            simp only [Act.put, List.getElem_toArray, List.getElem_cons_zero, List.getElem_cons_succ, List.setIfInBounds_toArray, List.set_cons_zero, List.set_cons_succ]
            refine wpAnyH_take (i := 6) (v := .int .i64 i) rfl (by kernel_rfl) (by kernel_rfl) (by kernel_rfl) (fun _ _ _ h => h) (Or.inl ⟨by rfl, fun x hx => by go_simp⟩) hSq3 ?_
            simp only [Act.put, List.getElem_toArray, List.getElem_cons_zero, List.getElem_cons_succ, List.setIfInBounds_toArray, List.set_cons_zero, List.set_cons_succ]
            refine wpAnyH_take (i := 7) (v := .pointer (some ⟨g, o + i * 34, none⟩)) rfl (by kernel_rfl) (by kernel_rfl) (by kernel_rfl) (fun _ _ _ h => h) (Or.inl ⟨by rfl, fun x hx => by go_simp⟩) hSq3 ?_
            simp only [Act.put, List.getElem_toArray, List.getElem_cons_zero, List.getElem_cons_succ, List.setIfInBounds_toArray, List.set_cons_zero, List.set_cons_succ]
            refine wpAnyH_take (i := 8) (v := .pointer (some ⟨g, o + i * 34, none⟩)) rfl (by kernel_rfl) (by kernel_rfl) (by kernel_rfl) (fun _ _ _ h => h) (Or.inl ⟨by rfl, fun x hx => by go_simp⟩) hSq3 ?_
            simp only [Act.put, List.getElem_toArray, List.getElem_cons_zero, List.getElem_cons_succ, List.setIfInBounds_toArray, List.set_cons_zero, List.set_cons_succ]
            refine wpAnyH_take (i := 9) rfl (by kernel_rfl) (by kernel_rfl) (by kernel_rfl) (fun _ _ _ h => h) (yieldsIf_load_mid (by rfl) 23 (.tmp 74) rfl (g) (o + i * 34) (by rfl) (c.h.map bv) _ (fun x hx => kn_h (HRC.out _ hx)) Try.underlying23 rfl (by rw [List.length_map, H32.out]; exact Try.sizeHash)) hSq3 ?_
            simp only [Act.put, List.getElem_toArray, List.getElem_cons_zero, List.getElem_cons_succ, List.setIfInBounds_toArray, List.set_cons_zero, List.set_cons_succ]
            refine wpAnyH_take (i := 10) (v := .bool false) rfl (by kernel_rfl) (by kernel_rfl) (by kernel_rfl) (fun _ _ _ h => h) (Or.inl ⟨by rfl, fun x hx => by go_simp⟩) hSq3 ?_
            simp only [Act.put, List.getElem_toArray, List.getElem_cons_zero, List.getElem_cons_succ, List.setIfInBounds_toArray, List.set_cons_zero, List.set_cons_succ]
            refine wpAnyH_take (i := 11) (v := .bool false) rfl (by kernel_rfl) (by kernel_rfl) (by kernel_rfl) (fun _ _ _ h => h) (Or.inl ⟨by rfl, fun x hx => by go_simp⟩) hSq3 ?_
            simp only [Act.put, List.getElem_toArray, List.getElem_cons_zero, List.getElem_cons_succ, List.setIfInBounds_toArray, List.set_cons_zero, List.set_cons_succ]
            refine wpAnyH_take (i := 12) (v := .slice (some ⟨g, o, none⟩) n cc) rfl (by kernel_rfl) (by kernel_rfl) (by kernel_rfl) (fun _ _ _ h => h) (Or.inl ⟨by rfl, fun x hx => by go_simp⟩) hSq3 ?_
            simp only [Act.put, List.getElem_toArray, List.getElem_cons_zero, List.getElem_cons_succ, List.setIfInBounds_toArray, List.set_cons_zero, List.set_cons_succ]
            refine wpAnyH_take (i := 13) (v := .int .i64 k) rfl (by kernel_rfl) (by kernel_rfl) (by kernel_rfl) (fun _ _ _ h => h) (Or.inl ⟨by rfl, fun x hx => by go_simp⟩) hSq3 ?_
            simp only [Act.put, List.getElem_toArray, List.getElem_cons_zero, List.getElem_cons_succ, List.setIfInBounds_toArray, List.set_cons_zero, List.set_cons_succ]
            refine wpAnyH_take (i := 14) (v := .pointer (some ⟨g, o + k * 34, none⟩)) rfl (by kernel_rfl) (by kernel_rfl) (by kernel_rfl) (fun _ _ _ h => h) (Or.inl ⟨by rfl, fun x hx => by go_simp⟩) hSq3 ?_
            simp only [Act.put, List.getElem_toArray, List.getElem_cons_zero, List.getElem_cons_succ, List.setIfInBounds_toArray, List.set_cons_zero, List.set_cons_succ]
            refine wpAnyH_take (i := 15) (v := .pointer (some ⟨g, o + k * 34 + 33, none⟩)) rfl (by kernel_rfl) (by kernel_rfl) (by kernel_rfl) (fun _ _ _ h => h) (Or.inl ⟨by rfl, fun x hx => by go_simp⟩) hSq3 ?_
            simp only [Act.put, List.getElem_toArray, List.getElem_cons_zero, List.getElem_cons_succ, List.setIfInBounds_toArray, List.set_cons_zero, List.set_cons_succ]
            refine wpAnyH_take (i := 16) (v := .string (str y.s)) rfl (by kernel_rfl) (by kernel_rfl) (by kernel_rfl) (fun _ _ _ h => h) (Or.inl ⟨by rfl, fun x hx => by have hc := HYS.out _ hx; go_simp⟩) hSq3 ?_
            simp only [Act.put, List.getElem_toArray, List.getElem_cons_zero, List.getElem_cons_succ, List.setIfInBounds_toArray, List.set_cons_zero, List.set_cons_succ]
            refine wpAnyH_take (i := 17) (v := .slice (some ⟨g, o, none⟩) n cc) rfl (by kernel_rfl) (by kernel_rfl) (by kernel_rfl) (fun _ _ _ h => h) (Or.inl ⟨by rfl, fun x hx => by go_simp⟩) hSq3 ?_
            simp only [Act.put, List.getElem_toArray, List.getElem_cons_zero, List.getElem_cons_succ, List.setIfInBounds_toArray, List.set_cons_zero, List.set_cons_succ]
            refine wpAnyH_take (i := 18) (v := .int .i64 i) rfl (by kernel_rfl) (by kernel_rfl) (by kernel_rfl) (fun _ _ _ h => h) (Or.inl ⟨by rfl, fun x hx => by go_simp⟩) hSq3 ?_
            simp only [Act.put, List.getElem_toArray, List.getElem_cons_zero, List.getElem_cons_succ, List.setIfInBounds_toArray, List.set_cons_zero, List.set_cons_succ]
            refine wpAnyH_take (i := 19) (v := .pointer (some ⟨g, o + i * 34, none⟩)) rfl (by kernel_rfl) (by kernel_rfl) (by kernel_rfl) (fun _ _ _ h => h) (Or.inl ⟨by rfl, fun x hx => by go_simp⟩) hSq3 ?_
            simp only [Act.put, List.getElem_toArray, List.getElem_cons_zero, List.getElem_cons_succ, List.setIfInBounds_toArray, List.set_cons_zero, List.set_cons_succ]
            refine wpAnyH_take (i := 20) (v := .pointer (some ⟨g, o + i * 34 + 33, none⟩)) rfl (by kernel_rfl) (by kernel_rfl) (by kernel_rfl) (fun _ _ _ h => h) (Or.inl ⟨by rfl, fun x hx => by go_simp⟩) hSq3 ?_
            simp only [Act.put, List.getElem_toArray, List.getElem_cons_zero, List.getElem_cons_succ, List.setIfInBounds_toArray, List.set_cons_zero, List.set_cons_succ]
            refine wpAnyH_take (i := 21) (v := .string (str c.s)) rfl (by kernel_rfl) (by kernel_rfl) (by kernel_rfl) (fun _ _ _ h => h) (Or.inl ⟨by rfl, fun x hx => by have hc := kn_s (HRC.out _ hx); go_simp⟩) hSq3 ?_
            simp only [Act.put, List.getElem_toArray, List.getElem_cons_zero, List.getElem_cons_succ, List.setIfInBounds_toArray, List.set_cons_zero, List.set_cons_succ]
            refine wpAnyH_take (i := 22) (v := .bool false) rfl (by kernel_rfl) (by kernel_rfl) (by kernel_rfl) (fun _ _ _ h => h) (Or.inl ⟨by rfl, fun x hx => by go_simp⟩) hSq3 ?_
            simp only [Act.put, List.getElem_toArray, List.getElem_cons_zero, List.getElem_cons_succ, List.setIfInBounds_toArray, List.set_cons_zero, List.set_cons_succ]
            refine wpAnyH_take (i := 23) (v := .bool false) rfl (by kernel_rfl) (by kernel_rfl) (by kernel_rfl) (fun _ _ _ h => h) (Or.inl ⟨by rfl, fun x hx => by go_simp⟩) hSq3 ?_
            simp only [Act.put, List.getElem_toArray, List.getElem_cons_zero, List.getElem_cons_succ, List.setIfInBounds_toArray, List.set_cons_zero, List.set_cons_succ]
            refine wpAnyH_done (by kernel_rfl) ?_ _
            have hB9 := Lib.hid hSq3
            clear hSq3 hqe hne1 hne2
            go_wp2_with fail
            go_roundw
            case rel => exact ⟨k + 1, by omega, by go_num, HK5, hB9⟩
            case measure => simp [intOf]; omega
          · obtain rfl : k = i := by omega
            have hF5 : Hid (FineI (all.take (k + 1))) := by
              show FineI _
              rw [List.take_add_one, HCI.out]
              refine hF.out.snoc HS0.out HLE.out fun y hy => ?_
              obtain ⟨j, hj, e⟩ := mem_take_ex hy
              exact HK.out j y hj e
            clear HK hF
            go_wp2_with fail
            go_roundw
            case rel => exact ⟨k + 1, by omega, by go_num, hF5, hB⟩
            case measure => simp [intOf]; omega
      · obtain rfl : n = i := by omega
        have FF : Hid (Fine all) := by
          have h := hF.out
          rw [List.take_of_length_le (by have := HN.out; omega)] at h
          exact ⟨by have := HN.out; omega, h.text, h.ids, h.texts⟩
        clear hF
        obtain ⟨z3, rfl⟩ : ∃ z, z = wr := ⟨_, rfl⟩
        go_wp2_with fail
        refine (Tell_calls _ v1 all _ (H1.out.below hB.out) (by have := HN.out; omega)).mono ?_
        rintro e w3 ⟨v3, rfl, L, hp, hs, R, h3, hr, hm, b3⟩
        have hB3 := hB.out.trans (b3.mono hB.out.size)
        have HTD := Lib.hid (meet_told FF.out hp hm)
        have H3 := Lib.hid h3.at
        have HRL : Hid (R.length ≤ 100000) := by
          show _ ≤ _
          have := nodup_len hr.nodup (fun x hx => (HTD.out x).1 hx)
          rw [List.length_map] at this
          have := HN.out
          omega
        clear hp hs h3 hr hm b3
        go_wp2_with fail
        refine (Want_calls _ _ R hv _ H3.out (H8.out.below hB3) HRL.out (by have := HN8.out; omega)).mono ?_
        rintro e w4 ⟨v4, R4, rfl, h4, hr4, hm4, b4⟩
        have hB4 := hB3.trans (b4.mono hB3.size)
        have hl4 := meet_want FF.out HTD.out hr4 hm4
        rw [List.take_of_length_le (by omega)] at h4
        have H4 := Lib.hid h4.at
        have HR4 := Lib.hid hr4
        have HM4 := Lib.hid hm4
        clear h4 hr4 hm4 b4 H3 HRL hB3
        go_wp2_with fail
        refine (Give_calls _ v1 R4 all _ H4.out (H1.out.below hB4).at (by omega) (by have := HN.out; omega)).mono ?_
        rintro e w6 ⟨v6, rfl, L6, hp6, hs6, h6, b6⟩
        have hB6 := hB4.trans (b6.mono hB4.size)
        obtain ⟨mt, hst⟩ := meet_give FF.out HTD.out HM4.out hp6 hs6
        rw [hst] at h6
        have MT := Lib.hid mt
        have hq64 := mt.len
        obtain ⟨ga, gc, hv6⟩ := h6.slice
        subst hv6
        rw [List.length_map] at h6 ⊢
        obtain ⟨q, hq⟩ : ∃ q, q = L6.length := ⟨_, rfl⟩
        have HQ := Lib.hid hq
        rw [← hq] at h6 hq64 ⊢
        have H6 := Lib.hid h6.at
        have H06 := Lib.hid (H0.out.below hB6)
        have H16 := Lib.hid (H1.out.below hB6)
        have H86 := Lib.hid (H8.out.below hB6)
        have HB6 := Lib.hid (HB2.out.trans (hB6.mono HB2.out.size))
        have hb0 := Lib.hid (Below.refl w6.heap.size w6)
        clear hp6 hs6 h6 b6 hB6 hB4 hB H1 H0 H8 mt hst hq H4 HR4 HM4 HTD hl4 HB2
        go_wp2_with fail
        go_loopw [10, 11] (fun dv iv wr => ∃ (i : Nat) (D : Int), i ≤ q ∧ iv = .int .i64 i ∧ dv = .int .i64 D ∧ Hid (D = prevD L6 i) ∧ Hid (Below w6.heap.size w6 wr)) (fun _ iv _ => q - (intOf iv).toNat)
        case atStart => exact ⟨0, 0, by omega, rfl, rfl, Lib.hid rfl, hb0⟩
        case round =>
          obtain ⟨i, D, hi, rfl, rfl, hD, hB⟩ := hrel
          obtain ⟨z4, rfl⟩ : ∃ z, z = wr := ⟨_, rfl⟩
          clear hb0
          by_cases hlt : i < q
          · obtain ⟨c, hc⟩ : ∃ c, L6[i]? = some c := ⟨_, List.getElem?_eq_getElem (by rw [← HQ.out]; exact hlt)⟩
            have hcs : (L6.map (·.s))[i]? = some c.s := by rw [List.getElem?_map, hc]; rfl
            obtain ⟨gg, go, rfl, _⟩ := H6.out.range sCells_len i c.s hcs
            have HGI : Hid (∀ z, Below w6.heap.size w6 z → z.cell? ⟨gg, go + i, none⟩ = some (.string (str c.s))) := fun z hz => by have := (H6.out.below hz).range' sCells_len i c.s hcs 0 _ rfl; rwa [Nat.mul_one] at this
            have HCI := Lib.hid hc
            have hD0 : Hid (D = deepT all L6 i 0) := by
              show _ = _
              rw [deepT_zero hc]; exact hD.out
            clear hc hcs hD
            go_wp2_with fail
            go_loopw [10, 12] (fun dv kv wr => ∃ (k : Nat) (D : Int), k ≤ n ∧ kv = .int .i64 k ∧ dv = .int .i64 D ∧ Hid (D = deepT all L6 i k) ∧ Hid (Below w6.heap.size w6 wr)) (fun _ kv _ => n - (intOf kv).toNat)
            case atStart => exact ⟨0, D, by omega, rfl, rfl, hD0, hB⟩
            case round =>
              obtain ⟨k, D, hk, rfl, rfl, hD, hB'⟩ := hrel
              obtain ⟨z5, rfl⟩ : ∃ z, z = wr := ⟨_, rfl⟩
              clear hB hD0
              have hb3 := hB'.out
              by_cases hkn : k < n
              · obtain ⟨x, hx⟩ : ∃ x, all[k]? = some x := ⟨_, List.getElem?_eq_getElem (by rw [← HN.out]; exact hkn)⟩
                obtain ⟨g, o, rfl, _⟩ := H06.out.range Kn.cells_len k x hx
                have HRX : Hid (∀ z, Below w6.heap.size w6 z → z.rangeAt g (o + k * 34) x.cells) := fun z hz => (H06.out.below hz).range' Kn.cells_len k x hx
                have HX32 : Hid (x.h.length = 32) := x.hh
                have HXI := Lib.hid hx
                clear hx
                by_cases e1 : x.s = c.s
                · obtain ⟨ex, hnh, hdl⟩ := met_hit FF.out MT.out HCI.out HXI.out e1
                  have HDL : Hid (0 < i → D ≤ x.d) := by
                    show 0 < i → D ≤ x.d
                    rw [hD.out, ex]; exact hdl
                  have HD5 : Hid (x.d = deepT all L6 i (k + 1)) := by
                    show _ = _
                    rw [deepT_hit HCI.out HXI.out e1, ex]
                  have HXS : Hid (∀ z, Below w6.heap.size w6 z → z.cell? ⟨g, o + k * 34 + 33, none⟩ = some (.string (str x.s))) := fun z hz => kn_s (HRX.out z hz)
                  rw [← ex] at HGI
                  have cH : Hid (∀ y, Below w6.heap.size w6 y → Calls Try.prog 45 #[.slice ao8 p c8, .agg (x.h.map bv).toArray] y fun e w' => e = .returned (.bool false) ∧ Below y.heap.size y w') := fun y hy => by
                    have := Has15_calls _ hv x.h HX32.out y (H86.out.below hy) (by have := HN8.out; omega)
                    rwa [decide_eq_false (ex ▸ hnh)] at this
                  clear e1 ex hnh hdl hB'
                  go_wp2_with fail
                  refine wp_region_held_drew (S := fun x => Below w6.heap.size w6 x) (by kernel_rfl) (below_drewN hb3 1) (fun hSq8 => ?_)
                  refine wpAnyH_take (i := 0) (v := .slice (some ⟨g, o, none⟩) n cc) rfl (by kernel_rfl) (by kernel_rfl) (by kernel_rfl) (fun _ _ _ h => h) (Or.inl ⟨by rfl, fun x hx => by go_simp⟩) hSq8 ?_
                  simp only [Act.put, List.getElem_toArray, List.getElem_cons_zero, List.getElem_cons_succ, List.setIfInBounds_toArray, List.set_cons_zero, List.set_cons_succ]
                  refine wpAnyH_take (i := 1) (v := .int .i64 k) rfl (by kernel_rfl) (by kernel_rfl) (by kernel_rfl) (fun _ _ _ h => h) (Or.inl ⟨by rfl, fun x hx => by go_simp⟩) hSq8 ?_
                  simp only [Act.put, List.getElem_toArray, List.getElem_cons_zero, List.getElem_cons_succ, List.setIfInBounds_toArray, List.set_cons_zero, List.set_cons_succ]
                  refine wpAnyH_take (i := 2) (v := .pointer (some ⟨g, o + k * 34, none⟩)) rfl (by kernel_rfl) (by kernel_rfl) (by kernel_rfl) (fun _ _ _ h => h) (Or.inl ⟨by rfl, fun x hx => by go_simp⟩) hSq8 ?_
                  simp only [Act.put, List.getElem_toArray, List.getElem_cons_zero, List.getElem_cons_succ, List.setIfInBounds_toArray, List.set_cons_zero, List.set_cons_succ]
                  refine wpAnyH_take (i := 3) (v := .pointer (some ⟨g, o + k * 34 + 33, none⟩)) rfl (by kernel_rfl) (by kernel_rfl) (by kernel_rfl) (fun _ _ _ h => h) (Or.inl ⟨by rfl, fun x hx => by go_simp⟩) hSq8 ?_
                  simp only [Act.put, List.getElem_toArray, List.getElem_cons_zero, List.getElem_cons_succ, List.setIfInBounds_toArray, List.set_cons_zero, List.set_cons_succ]
                  refine wpAnyH_take (i := 4) (v := .string (str x.s)) rfl (by kernel_rfl) (by kernel_rfl) (by kernel_rfl) (fun _ _ _ h => h) (Or.inl ⟨by rfl, fun x hx => by have hc := HXS.out _ hx; go_simp⟩) hSq8 ?_
                  simp only [Act.put, List.getElem_toArray, List.getElem_cons_zero, List.getElem_cons_succ, List.setIfInBounds_toArray, List.set_cons_zero, List.set_cons_succ]
                  refine wpAnyH_take (i := 5) (v := .slice (some ⟨gg, go, none⟩) q gc) rfl (by kernel_rfl) (by kernel_rfl) (by kernel_rfl) (fun _ _ _ h => h) (Or.inl ⟨by rfl, fun x hx => by go_simp⟩) hSq8 ?_
                  simp only [Act.put, List.getElem_toArray, List.getElem_cons_zero, List.getElem_cons_succ, List.setIfInBounds_toArray, List.set_cons_zero, List.set_cons_succ]
                  refine wpAnyH_take (i := 6) (v := .int .i64 i) rfl (by kernel_rfl) (by kernel_rfl) (by kernel_rfl) (fun _ _ _ h => h) (Or.inl ⟨by rfl, fun x hx => by go_simp⟩) hSq8 ?_
                  simp only [Act.put, List.getElem_toArray, List.getElem_cons_zero, List.getElem_cons_succ, List.setIfInBounds_toArray, List.set_cons_zero, List.set_cons_succ]
                  refine wpAnyH_take (i := 7) (v := .pointer (some ⟨gg, go + i, none⟩)) rfl (by kernel_rfl) (by kernel_rfl) (by kernel_rfl) (fun _ _ _ h => h) (Or.inl ⟨by rfl, fun x hx => by go_simp⟩) hSq8 ?_
                  simp only [Act.put, List.getElem_toArray, List.getElem_cons_zero, List.getElem_cons_succ, List.setIfInBounds_toArray, List.set_cons_zero, List.set_cons_succ]
                  refine wpAnyH_take (i := 8) (v := .string (str x.s)) rfl (by kernel_rfl) (by kernel_rfl) (by kernel_rfl) (fun _ _ _ h => h) (Or.inl ⟨by rfl, fun x hx => by have hc := HGI.out _ hx; go_simp⟩) hSq8 ?_
                  simp only [Act.put, List.getElem_toArray, List.getElem_cons_zero, List.getElem_cons_succ, List.setIfInBounds_toArray, List.set_cons_zero, List.set_cons_succ]
                  refine wpAnyH_take (i := 9) (v := .bool false) rfl (by kernel_rfl) (by kernel_rfl) (by kernel_rfl) (fun _ _ _ h => h) (Or.inl ⟨by rfl, fun x hx => by go_simp⟩) hSq8 ?_
                  simp only [Act.put, List.getElem_toArray, List.getElem_cons_zero, List.getElem_cons_succ, List.setIfInBounds_toArray, List.set_cons_zero, List.set_cons_succ]
                  refine wpAnyH_done (by kernel_rfl) ?_ _
                  have hB9 := hSq8
                  clear hSq8
                  obtain ⟨z7, hz7⟩ : ∃ z, z = (World.drew z5) := ⟨_, rfl⟩
                  rw [← hz7] at hB9 ⊢
                  clear hz7
                  have hrx := HRX.out _ hB9
                  by_cases hi0 : 0 < i
                  · have hdl := HDL.out hi0
                    go_wp2_with ((with_reducible show wpList _ _ _ (⟨some 123, _, _, _, _, _⟩ :: _) _ _); refine wpList_load_mid rfl 23 (.tmp 122) rfl g (o + k * 34) (by rfl) (x.h.map bv) _ (kn_h hrx) Try.underlying23 rfl (by rw [List.length_map, HX32.out]; exact Try.sizeHash) ?_)
                    refine (cH.out _ hB9).mono ?_
                    rintro e w9 ⟨rfl, b9⟩
                    have hB10 := hB9.trans (b9.mono hB9.size)
                    have hrx9 := HRX.out _ hB10
                    clear b9 hB9 hrx
                    go_wp2_with (first | ((with_reducible show wpList _ _ _ (⟨some 133, _, _, _, _, _⟩ :: _) _ _); refine wpList_if (by rfl) (wp_load1 3 (.tmp 132) rfl g (o + k * 34 + 32) (by rfl) _ _ (kn_d hrx9) Try.underlying3 rfl ?_)) | ((with_reducible show wpList _ _ _ (⟨some 142, _, _, _, _, _⟩ :: _) _ _); refine wpList_load1 rfl 3 (.tmp 141) rfl g (o + k * 34 + 32) (by rfl) _ _ (kn_d hrx9) Try.underlying3 rfl ?_))
                    have hB11 := Lib.hid hB10
                    clear hrx9 hB10 hdl
                    go_roundw
                    case rel => exact ⟨k + 1, x.d, by omega, by go_num, rfl, HD5, hB11⟩
                    case measure => simp [intOf]; omega
                  · go_wp2_with ((with_reducible show wpList _ _ _ (⟨some 123, _, _, _, _, _⟩ :: _) _ _); refine wpList_load_mid rfl 23 (.tmp 122) rfl g (o + k * 34) (by rfl) (x.h.map bv) _ (kn_h hrx) Try.underlying23 rfl (by rw [List.length_map, HX32.out]; exact Try.sizeHash) ?_)
                    refine (cH.out _ hB9).mono ?_
                    rintro e w9 ⟨rfl, b9⟩
                    have hB10 := hB9.trans (b9.mono hB9.size)
                    have hrx9 := HRX.out _ hB10
                    clear b9 hB9 hrx
                    go_wp2_with ((with_reducible show wpList _ _ _ (⟨some 142, _, _, _, _, _⟩ :: _) _ _); refine wpList_load1 rfl 3 (.tmp 141) rfl g (o + k * 34 + 32) (by rfl) _ _ (kn_d hrx9) Try.underlying3 rfl ?_)
                    have hB11 := Lib.hid hB10
                    clear hrx9 hB10
                    go_roundw
                    case rel => exact ⟨k + 1, x.d, by omega, by go_num, rfl, HD5, hB11⟩
                    case measure => simp [intOf]; omega
                · have HXS : Hid (∀ z, Below w6.heap.size w6 z → z.cell? ⟨g, o + k * 34 + 33, none⟩ = some (.string (str x.s))) := fun z hz => kn_s (HRX.out z hz)
                  have HD5 : Hid (D = deepT all L6 i (k + 1)) := by
                    show _ = _
                    rw [deepT_miss HCI.out HXI.out e1]; exact hD.out
                  have hne1 : ¬ str x.s = str c.s := fun h => e1 (str_inj.1 h)
                  have hne2 := e1
                  clear e1 hB'
                  go_wp2_with fail
                  refine wp_region_held_drew (S := fun x => Below w6.heap.size w6 x) (by kernel_rfl) (below_drewN hb3 1) (fun hSq9 => ?_)
                  refine wpAnyH_take (i := 0) (v := .slice (some ⟨g, o, none⟩) n cc) rfl (by kernel_rfl) (by kernel_rfl) (by kernel_rfl) (fun _ _ _ h => h) (Or.inl ⟨by rfl, fun x hx => by go_simp⟩) hSq9 ?_
                  simp only [Act.put, List.getElem_toArray, List.getElem_cons_zero, List.getElem_cons_succ, List.setIfInBounds_toArray, List.set_cons_zero, List.set_cons_succ]
                  refine wpAnyH_take (i := 1) (v := .int .i64 k) rfl (by kernel_rfl) (by kernel_rfl) (by kernel_rfl) (fun _ _ _ h => h) (Or.inl ⟨by rfl, fun x hx => by go_simp⟩) hSq9 ?_
                  simp only [Act.put, List.getElem_toArray, List.getElem_cons_zero, List.getElem_cons_succ, List.setIfInBounds_toArray, List.set_cons_zero, List.set_cons_succ]
                  refine wpAnyH_take (i := 2) (v := .pointer (some ⟨g, o + k * 34, none⟩)) rfl (by kernel_rfl) (by kernel_rfl) (by kernel_rfl) (fun _ _ _ h => h) (Or.inl ⟨by rfl, fun x hx => by go_simp⟩) hSq9 ?_
                  simp only [Act.put, List.getElem_toArray, List.getElem_cons_zero, List.getElem_cons_succ, List.setIfInBounds_toArray, List.set_cons_zero, List.set_cons_succ]
                  refine wpAnyH_take (i := 3) (v := .pointer (some ⟨g, o + k * 34 + 33, none⟩)) rfl (by kernel_rfl) (by kernel_rfl) (by kernel_rfl) (fun _ _ _ h => h) (Or.inl ⟨by rfl, fun x hx => by go_simp⟩) hSq9 ?_
                  simp only [Act.put, List.getElem_toArray, List.getElem_cons_zero, List.getElem_cons_succ, List.setIfInBounds_toArray, List.set_cons_zero, List.set_cons_succ]
                  refine wpAnyH_take (i := 4) (v := .string (str x.s)) rfl (by kernel_rfl) (by kernel_rfl) (by kernel_rfl) (fun _ _ _ h => h) (Or.inl ⟨by rfl, fun x hx => by have hc := HXS.out _ hx; go_simp⟩) hSq9 ?_
                  simp only [Act.put, List.getElem_toArray, List.getElem_cons_zero, List.getElem_cons_succ, List.setIfInBounds_toArray, List.set_cons_zero, List.set_cons_succ]
                  refine wpAnyH_take (i := 5) (v := .slice (some ⟨gg, go, none⟩) q gc) rfl (by kernel_rfl) (by kernel_rfl) (by kernel_rfl) (fun _ _ _ h => h) (Or.inl ⟨by rfl, fun x hx => by go_simp⟩) hSq9 ?_
                  simp only [Act.put, List.getElem_toArray, List.getElem_cons_zero, List.getElem_cons_succ, List.setIfInBounds_toArray, List.set_cons_zero, List.set_cons_succ]
                  refine wpAnyH_take (i := 6) (v := .int .i64 i) rfl (by kernel_rfl) (by kernel_rfl) (by kernel_rfl) (fun _ _ _ h => h) (Or.inl ⟨by rfl, fun x hx => by go_simp⟩) hSq9 ?_
                  simp only [Act.put, List.getElem_toArray, List.getElem_cons_zero, List.getElem_cons_succ, List.setIfInBounds_toArray, List.set_cons_zero, List.set_cons_succ]
                  refine wpAnyH_take (i := 7) (v := .pointer (some ⟨gg, go + i, none⟩)) rfl (by kernel_rfl) (by kernel_rfl) (by kernel_rfl) (fun _ _ _ h => h) (Or.inl ⟨by rfl, fun x hx => by go_simp⟩) hSq9 ?_
                  simp only [Act.put, List.getElem_toArray, List.getElem_cons_zero, List.getElem_cons_succ, List.setIfInBounds_toArray, List.set_cons_zero, List.set_cons_succ]
                  refine wpAnyH_take (i := 8) (v := .string (str c.s)) rfl (by kernel_rfl) (by kernel_rfl) (by kernel_rfl) (fun _ _ _ h => h) (Or.inl ⟨by rfl, fun x hx => by have hc := HGI.out _ hx; go_simp⟩) hSq9 ?_
                  simp only [Act.put, List.getElem_toArray, List.getElem_cons_zero, List.getElem_cons_succ, List.setIfInBounds_toArray, List.set_cons_zero, List.set_cons_succ]
                  refine wpAnyH_take (i := 9) (v := .bool true) rfl (by kernel_rfl) (by kernel_rfl) (by kernel_rfl) (fun _ _ _ h => h) (Or.inl ⟨by rfl, fun x hx => by go_simp⟩) hSq9 ?_
                  simp only [Act.put, List.getElem_toArray, List.getElem_cons_zero, List.getElem_cons_succ, List.setIfInBounds_toArray, List.set_cons_zero, List.set_cons_succ]
                  refine wpAnyH_done (by kernel_rfl) ?_ _
                  have hB9 := Lib.hid hSq9
                  clear hSq9 hne1 hne2
                  go_wp2_with fail
                  go_roundw
                  case rel => exact ⟨k + 1, D, by omega, by go_num, rfl, HD5, hB9⟩
                  case measure => simp [intOf]; omega
              · obtain rfl : n = k := by omega
                have HD5 : Hid (D = prevD L6 (i + 1)) := by
                  show _ = _
                  rw [← deepT_end MT.out HCI.out, ← HN.out]; exact hD.out
                clear hD
                go_wp2_with fail
                go_roundw
                case rel => exact ⟨i + 1, D, by omega, by go_num, rfl, HD5, hB'⟩
                case measure => simp [intOf]; omega
          · clear hD
            go_wp2_with fail
            go_loopw [13] (fun kv wr => ∃ (k : Nat), k ≤ n ∧ kv = .int .i64 k ∧ Hid (Below w6.heap.size w6 wr)) (fun kv _ => n - (intOf kv).toNat)
            case atStart => exact ⟨0, by omega, rfl, hB⟩
            case round =>
              obtain ⟨k, hk, rfl, hB'⟩ := hrel
              obtain ⟨z5, rfl⟩ : ∃ z, z = wr := ⟨_, rfl⟩
              clear hB
              by_cases hkn : k < n
              · obtain ⟨x, hx⟩ : ∃ x, all[k]? = some x := ⟨_, List.getElem?_eq_getElem (by rw [← HN.out]; exact hkn)⟩
                obtain ⟨g, o, rfl, _⟩ := H06.out.range Kn.cells_len k x hx
                have HRX : Hid (∀ z, Below w6.heap.size w6 z → z.rangeAt g (o + k * 34) x.cells) := fun z hz => (H06.out.below hz).range' Kn.cells_len k x hx
                have HX32 : Hid (x.h.length = 32) := x.hh
                have HXI := Lib.hid hx
                clear hx
                have HXS : Hid (∀ z, Below w6.heap.size w6 z → z.cell? ⟨g, o + k * 34 + 33, none⟩ = some (.string (str x.s))) := fun z hz => kn_s (HRX.out z hz)
                obtain ⟨D0, hD0⟩ : ∃ D, D = decide (x.h ∈ hv) := ⟨_, rfl⟩
                have HD0 := Lib.hid hD0
                have cH : Calls Try.prog 45 #[.slice ao8 p c8, .agg (x.h.map bv).toArray] z5 fun e w' => e = .returned (.bool D0) ∧ Below z5.heap.size z5 w' := by
                  rw [hD0]
                  exact Has15_calls _ hv x.h HX32.out z5 (H86.out.below hB'.out) (by have := HN8.out; omega)
                have hrx := HRX.out _ hB'.out
                clear hD0
                go_wp2_with ((with_reducible show wpList _ _ _ (⟨some 154, _, _, _, _, _⟩ :: _) _ _); refine wpList_load_mid rfl 23 (.tmp 153) rfl g (o + k * 34) (by rfl) (x.h.map bv) _ (kn_h hrx) Try.underlying23 rfl (by rw [List.length_map, HX32.out]; exact Try.sizeHash) ?_)
                refine cH.mono ?_
                rintro e w9 ⟨rfl, b9⟩
                have hB9 := Lib.hid (hB'.out.trans (b9.mono hB'.out.size))
                have hM0 : Hid (ThereT D0 x hv L6 0) := by
                  show _ ↔ _
                  rw [HD0.out, decide_eq_true_eq]
                  constructor
                  · exact .inl
                  · rintro (h | ⟨j, c, hj, _⟩)
                    · exact h
                    · omega
                clear cH b9 hrx hB'
                go_wp2_with fail
                go_loopw [14, 15] (fun tv iv wr => ∃ (i : Nat) (B : Bool), i ≤ q ∧ iv = .int .i64 i ∧ tv = .bool B ∧ Hid (ThereT B x hv L6 i) ∧ Hid (Below w6.heap.size w6 wr)) (fun _ iv _ => q - (intOf iv).toNat)
                case atStart => exact ⟨0, D0, by omega, rfl, rfl, hM0, hB9⟩
                case round =>
                  obtain ⟨i, B, hi, rfl, rfl, hM, hB'⟩ := hrel
                  obtain ⟨z7, rfl⟩ : ∃ z, z = wr := ⟨_, rfl⟩
                  clear hM0 hB9
                  have hb3 := hB'.out
                  by_cases hiq : i < q
                  · obtain ⟨c, hc⟩ : ∃ c, L6[i]? = some c := ⟨_, List.getElem?_eq_getElem (by rw [← HQ.out]; exact hiq)⟩
                    have hcs : (L6.map (·.s))[i]? = some c.s := by rw [List.getElem?_map, hc]; rfl
                    obtain ⟨gg, go, rfl, _⟩ := H6.out.range sCells_len i c.s hcs
                    have HGI : Hid (∀ z, Below w6.heap.size w6 z → z.cell? ⟨gg, go + i, none⟩ = some (.string (str c.s))) := fun z hz => by have := (H6.out.below hz).range' sCells_len i c.s hcs 0 _ rfl; rwa [Nat.mul_one] at this
                    have HCI := Lib.hid hc
                    clear hc hcs hB'
                    cases B with
                    | true =>
                      have HM5 : Hid (ThereT true x hv L6 (i + 1)) := by
                        show _ ↔ _
                        refine ⟨fun _ => ?_, fun _ => rfl⟩
                        rcases hM.out.iff.1 rfl with h | ⟨j, c, hj, h⟩
                        · exact .inl h
                        · exact .inr ⟨j, c, by omega, h⟩
                      clear hM
                      go_wp2_with fail
                      refine wp_region_held_drew (S := fun x => Below w6.heap.size w6 x) (by kernel_rfl) (below_drewN hb3 1) (fun hSq10 => ?_)
                      refine wpAnyH_take (i := 0) (v := .bool true) rfl (by kernel_rfl) (by kernel_rfl) (by kernel_rfl) (fun _ _ _ h => h) (Or.inl ⟨by rfl, fun x hx => by go_simp⟩) hSq10 ?_
                      simp only [Act.put, List.getElem_toArray, List.getElem_cons_zero, List.getElem_cons_succ, List.setIfInBounds_toArray, List.set_cons_zero, List.set_cons_succ]
                      refine wpAnyH_take (i := 1) (v := .bool true) rfl (by kernel_rfl) (by kernel_rfl) (by kernel_rfl) (fun _ _ _ h => h) (Or.inl ⟨by rfl, fun x hx => by go_simp⟩) hSq10 ?_
                      simp only [Act.put, List.getElem_toArray, List.getElem_cons_zero, List.getElem_cons_succ, List.setIfInBounds_toArray, List.set_cons_zero, List.set_cons_succ]
                      refine wpAnyH_take (i := 2) (v := undef) rfl (by kernel_rfl) (by kernel_rfl) (by kernel_rfl) (fun _ _ _ h => h) (Or.inr ⟨by rfl, rfl⟩) hSq10 ?_
                      simp only [Act.put, List.getElem_toArray, List.getElem_cons_zero, List.getElem_cons_succ, List.setIfInBounds_toArray, List.set_cons_zero, List.set_cons_succ]
                      refine wpAnyH_take (i := 3) (v := undef) rfl (by kernel_rfl) (by kernel_rfl) (by kernel_rfl) (fun _ _ _ h => h) (Or.inr ⟨by rfl, rfl⟩) hSq10 ?_
                      simp only [Act.put, List.getElem_toArray, List.getElem_cons_zero, List.getElem_cons_succ, List.setIfInBounds_toArray, List.set_cons_zero, List.set_cons_succ]
                      refine wpAnyH_take (i := 4) (v := undef) rfl (by kernel_rfl) (by kernel_rfl) (by kernel_rfl) (fun _ _ _ h => h) (Or.inr ⟨by rfl, rfl⟩) hSq10 ?_
                      simp only [Act.put, List.getElem_toArray, List.getElem_cons_zero, List.getElem_cons_succ, List.setIfInBounds_toArray, List.set_cons_zero, List.set_cons_succ]
                      refine wpAnyH_take (i := 5) (v := undef) rfl (by kernel_rfl) (by kernel_rfl) (by kernel_rfl) (fun _ _ _ h => h) (Or.inr ⟨by rfl, rfl⟩) hSq10 ?_
                      simp only [Act.put, List.getElem_toArray, List.getElem_cons_zero, List.getElem_cons_succ, List.setIfInBounds_toArray, List.set_cons_zero, List.set_cons_succ]
                      refine wpAnyH_take (i := 6) (v := undef) rfl (by kernel_rfl) (by kernel_rfl) (by kernel_rfl) (fun _ _ _ h => h) (Or.inr ⟨by rfl, rfl⟩) hSq10 ?_
                      simp only [Act.put, List.getElem_toArray, List.getElem_cons_zero, List.getElem_cons_succ, List.setIfInBounds_toArray, List.set_cons_zero, List.set_cons_succ]
                      refine wpAnyH_take (i := 7) (v := undef) rfl (by kernel_rfl) (by kernel_rfl) (by kernel_rfl) (fun _ _ _ h => h) (Or.inr ⟨by rfl, rfl⟩) hSq10 ?_
                      simp only [Act.put, List.getElem_toArray, List.getElem_cons_zero, List.getElem_cons_succ, List.setIfInBounds_toArray, List.set_cons_zero, List.set_cons_succ]
                      refine wpAnyH_take (i := 8) (v := undef) rfl (by kernel_rfl) (by kernel_rfl) (by kernel_rfl) (fun _ _ _ h => h) (Or.inr ⟨by rfl, rfl⟩) hSq10 ?_
                      simp only [Act.put, List.getElem_toArray, List.getElem_cons_zero, List.getElem_cons_succ, List.setIfInBounds_toArray, List.set_cons_zero, List.set_cons_succ]
                      refine wpAnyH_take (i := 9) (v := undef) rfl (by kernel_rfl) (by kernel_rfl) (by kernel_rfl) (fun _ _ _ h => h) (Or.inr ⟨by rfl, rfl⟩) hSq10 ?_
                      simp only [Act.put, List.getElem_toArray, List.getElem_cons_zero, List.getElem_cons_succ, List.setIfInBounds_toArray, List.set_cons_zero, List.set_cons_succ]
                      refine wpAnyH_take (i := 10) (v := undef) rfl (by kernel_rfl) (by kernel_rfl) (by kernel_rfl) (fun _ _ _ h => h) (Or.inr ⟨by rfl, rfl⟩) hSq10 ?_
                      simp only [Act.put, List.getElem_toArray, List.getElem_cons_zero, List.getElem_cons_succ, List.setIfInBounds_toArray, List.set_cons_zero, List.set_cons_succ]
                      refine wpAnyH_take (i := 11) (v := undef) rfl (by kernel_rfl) (by kernel_rfl) (by kernel_rfl) (fun _ _ _ h => h) (Or.inr ⟨by rfl, rfl⟩) hSq10 ?_
                      simp only [Act.put, List.getElem_toArray, List.getElem_cons_zero, List.getElem_cons_succ, List.setIfInBounds_toArray, List.set_cons_zero, List.set_cons_succ]
                      refine wpAnyH_take (i := 12) (v := .bool true) rfl (by kernel_rfl) (by kernel_rfl) (by kernel_rfl) (fun _ _ _ h => h) (Or.inl ⟨by rfl, fun x hx => by go_simp⟩) hSq10 ?_
                      simp only [Act.put, List.getElem_toArray, List.getElem_cons_zero, List.getElem_cons_succ, List.setIfInBounds_toArray, List.set_cons_zero, List.set_cons_succ]
                      refine wpAnyH_ready (rs := [13]) (by kernel_rfl) (by simp) ?_
                      refine AllReadyH.cons rfl (fun K hK => ?_) AllReadyH.nil
                      go_simp
                      refine hK.out _ _ hSq10 (fun hSq11 => ?_)
                      clear hK K hSq10
                      refine wpAnyH_done (by kernel_rfl) ?_ _
                      have hB9 := Lib.hid hSq11
                      clear hSq11 
                      go_wp2_with fail
                      go_roundw
                      case rel => exact ⟨i + 1, true, by omega, by go_num, rfl, HM5, hB9⟩
                      case measure => simp [intOf]; omega
                    | false =>
                      by_cases e1 : c.s = x.s
                      · have HM5 : Hid (ThereT true x hv L6 (i + 1)) := by
                          show _ ↔ _
                          exact ⟨fun _ => .inr ⟨i, c, by omega, HCI.out, e1⟩, fun _ => rfl⟩
                        rw [e1] at HGI
                        clear hM e1
                        go_wp2_with fail
                        refine wp_region_held_drew (S := fun x => Below w6.heap.size w6 x) (by kernel_rfl) (below_drewN hb3 1) (fun hSq12 => ?_)
                        refine wpAnyH_take (i := 0) (v := .bool false) rfl (by kernel_rfl) (by kernel_rfl) (by kernel_rfl) (fun _ _ _ h => h) (Or.inl ⟨by rfl, fun x hx => by go_simp⟩) hSq12 ?_
                        simp only [Act.put, List.getElem_toArray, List.getElem_cons_zero, List.getElem_cons_succ, List.setIfInBounds_toArray, List.set_cons_zero, List.set_cons_succ]
                        refine wpAnyH_take (i := 1) (v := .bool false) rfl (by kernel_rfl) (by kernel_rfl) (by kernel_rfl) (fun _ _ _ h => h) (Or.inl ⟨by rfl, fun x hx => by go_simp⟩) hSq12 ?_
                        simp only [Act.put, List.getElem_toArray, List.getElem_cons_zero, List.getElem_cons_succ, List.setIfInBounds_toArray, List.set_cons_zero, List.set_cons_succ]
                        refine wpAnyH_take (i := 2) (v := .slice (some ⟨gg, go, none⟩) q gc) rfl (by kernel_rfl) (by kernel_rfl) (by kernel_rfl) (fun _ _ _ h => h) (Or.inl ⟨by rfl, fun x hx => by go_simp⟩) hSq12 ?_
                        simp only [Act.put, List.getElem_toArray, List.getElem_cons_zero, List.getElem_cons_succ, List.setIfInBounds_toArray, List.set_cons_zero, List.set_cons_succ]
                        refine wpAnyH_take (i := 3) (v := .int .i64 i) rfl (by kernel_rfl) (by kernel_rfl) (by kernel_rfl) (fun _ _ _ h => h) (Or.inl ⟨by rfl, fun x hx => by go_simp⟩) hSq12 ?_
                        simp only [Act.put, List.getElem_toArray, List.getElem_cons_zero, List.getElem_cons_succ, List.setIfInBounds_toArray, List.set_cons_zero, List.set_cons_succ]
                        refine wpAnyH_take (i := 4) (v := .pointer (some ⟨gg, go + i, none⟩)) rfl (by kernel_rfl) (by kernel_rfl) (by kernel_rfl) (fun _ _ _ h => h) (Or.inl ⟨by rfl, fun x hx => by go_simp⟩) hSq12 ?_
                        simp only [Act.put, List.getElem_toArray, List.getElem_cons_zero, List.getElem_cons_succ, List.setIfInBounds_toArray, List.set_cons_zero, List.set_cons_succ]
                        refine wpAnyH_take (i := 5) (v := .string (str x.s)) rfl (by kernel_rfl) (by kernel_rfl) (by kernel_rfl) (fun _ _ _ h => h) (Or.inl ⟨by rfl, fun x hx => by have hc := HGI.out _ hx; go_simp⟩) hSq12 ?_
                        simp only [Act.put, List.getElem_toArray, List.getElem_cons_zero, List.getElem_cons_succ, List.setIfInBounds_toArray, List.set_cons_zero, List.set_cons_succ]
                        refine wpAnyH_take (i := 6) (v := .slice (some ⟨g, o, none⟩) n cc) rfl (by kernel_rfl) (by kernel_rfl) (by kernel_rfl) (fun _ _ _ h => h) (Or.inl ⟨by rfl, fun x hx => by go_simp⟩) hSq12 ?_
                        simp only [Act.put, List.getElem_toArray, List.getElem_cons_zero, List.getElem_cons_succ, List.setIfInBounds_toArray, List.set_cons_zero, List.set_cons_succ]
                        refine wpAnyH_take (i := 7) (v := .int .i64 k) rfl (by kernel_rfl) (by kernel_rfl) (by kernel_rfl) (fun _ _ _ h => h) (Or.inl ⟨by rfl, fun x hx => by go_simp⟩) hSq12 ?_
                        simp only [Act.put, List.getElem_toArray, List.getElem_cons_zero, List.getElem_cons_succ, List.setIfInBounds_toArray, List.set_cons_zero, List.set_cons_succ]
                        refine wpAnyH_take (i := 8) (v := .pointer (some ⟨g, o + k * 34, none⟩)) rfl (by kernel_rfl) (by kernel_rfl) (by kernel_rfl) (fun _ _ _ h => h) (Or.inl ⟨by rfl, fun x hx => by go_simp⟩) hSq12 ?_
                        simp only [Act.put, List.getElem_toArray, List.getElem_cons_zero, List.getElem_cons_succ, List.setIfInBounds_toArray, List.set_cons_zero, List.set_cons_succ]
                        refine wpAnyH_take (i := 9) (v := .pointer (some ⟨g, o + k * 34 + 33, none⟩)) rfl (by kernel_rfl) (by kernel_rfl) (by kernel_rfl) (fun _ _ _ h => h) (Or.inl ⟨by rfl, fun x hx => by go_simp⟩) hSq12 ?_
                        simp only [Act.put, List.getElem_toArray, List.getElem_cons_zero, List.getElem_cons_succ, List.setIfInBounds_toArray, List.set_cons_zero, List.set_cons_succ]
                        refine wpAnyH_take (i := 10) (v := .string (str x.s)) rfl (by kernel_rfl) (by kernel_rfl) (by kernel_rfl) (fun _ _ _ h => h) (Or.inl ⟨by rfl, fun x hx => by have hc := HXS.out _ hx; go_simp⟩) hSq12 ?_
                        simp only [Act.put, List.getElem_toArray, List.getElem_cons_zero, List.getElem_cons_succ, List.setIfInBounds_toArray, List.set_cons_zero, List.set_cons_succ]
                        refine wpAnyH_take (i := 11) (v := .bool true) rfl (by kernel_rfl) (by kernel_rfl) (by kernel_rfl) (fun _ _ _ h => h) (Or.inl ⟨by rfl, fun x hx => by go_simp⟩) hSq12 ?_
                        simp only [Act.put, List.getElem_toArray, List.getElem_cons_zero, List.getElem_cons_succ, List.setIfInBounds_toArray, List.set_cons_zero, List.set_cons_succ]
                        refine wpAnyH_take (i := 12) (v := .bool true) rfl (by kernel_rfl) (by kernel_rfl) (by kernel_rfl) (fun _ _ _ h => h) (Or.inl ⟨by rfl, fun x hx => by go_simp⟩) hSq12 ?_
                        simp only [Act.put, List.getElem_toArray, List.getElem_cons_zero, List.getElem_cons_succ, List.setIfInBounds_toArray, List.set_cons_zero, List.set_cons_succ]
                        refine wpAnyH_ready (rs := [13]) (by kernel_rfl) (by simp) ?_
                        refine AllReadyH.cons rfl (fun K hK => ?_) AllReadyH.nil
                        go_simp
                        refine hK.out _ _ hSq12 (fun hSq13 => ?_)
                        clear hK K hSq12
                        refine wpAnyH_done (by kernel_rfl) ?_ _
                        have hB9 := Lib.hid hSq13
                        clear hSq13 
                        go_wp2_with fail
                        go_roundw
                        case rel => exact ⟨i + 1, true, by omega, by go_num, rfl, HM5, hB9⟩
                        case measure => simp [intOf]; omega
                      · have HM5 : Hid (ThereT false x hv L6 (i + 1)) := by
                          show _ ↔ _
                          refine ⟨(fun h => by cases h), ?_⟩
                          rintro (h | ⟨j, c', hj, h1, h2⟩)
                          · exact hM.out.iff.2 (.inl h)
                          · by_cases hji : j < i
                            · exact hM.out.iff.2 (.inr ⟨j, c', hji, h1, h2⟩)
                            · obtain rfl : j = i := by omega
                              rw [HCI.out] at h1
                              obtain rfl := Option.some.inj h1
                              exact absurd h2 e1
                        have hne1 : ¬ str c.s = str x.s := fun h => e1 (str_inj.1 h)
                        have hne2 := e1
                        clear hM e1
                        go_wp2_with fail
                        refine wp_region_held_drew (S := fun x => Below w6.heap.size w6 x) (by kernel_rfl) (below_drewN hb3 1) (fun hSq14 => ?_)
                        refine wpAnyH_take (i := 0) (v := .bool false) rfl (by kernel_rfl) (by kernel_rfl) (by kernel_rfl) (fun _ _ _ h => h) (Or.inl ⟨by rfl, fun x hx => by go_simp⟩) hSq14 ?_
                        simp only [Act.put, List.getElem_toArray, List.getElem_cons_zero, List.getElem_cons_succ, List.setIfInBounds_toArray, List.set_cons_zero, List.set_cons_succ]
                        refine wpAnyH_take (i := 1) (v := .bool false) rfl (by kernel_rfl) (by kernel_rfl) (by kernel_rfl) (fun _ _ _ h => h) (Or.inl ⟨by rfl, fun x hx => by go_simp⟩) hSq14 ?_
                        simp only [Act.put, List.getElem_toArray, List.getElem_cons_zero, List.getElem_cons_succ, List.setIfInBounds_toArray, List.set_cons_zero, List.set_cons_succ]
                        refine wpAnyH_take (i := 2) (v := .slice (some ⟨gg, go, none⟩) q gc) rfl (by kernel_rfl) (by kernel_rfl) (by kernel_rfl) (fun _ _ _ h => h) (Or.inl ⟨by rfl, fun x hx => by go_simp⟩) hSq14 ?_
                        simp only [Act.put, List.getElem_toArray, List.getElem_cons_zero, List.getElem_cons_succ, List.setIfInBounds_toArray, List.set_cons_zero, List.set_cons_succ]
                        refine wpAnyH_take (i := 3) (v := .int .i64 i) rfl (by kernel_rfl) (by kernel_rfl) (by kernel_rfl) (fun _ _ _ h => h) (Or.inl ⟨by rfl, fun x hx => by go_simp⟩) hSq14 ?_
                        simp only [Act.put, List.getElem_toArray, List.getElem_cons_zero, List.getElem_cons_succ, List.setIfInBounds_toArray, List.set_cons_zero, List.set_cons_succ]
                        refine wpAnyH_take (i := 4) (v := .pointer (some ⟨gg, go + i, none⟩)) rfl (by kernel_rfl) (by kernel_rfl) (by kernel_rfl) (fun _ _ _ h => h) (Or.inl ⟨by rfl, fun x hx => by go_simp⟩) hSq14 ?_
                        simp only [Act.put, List.getElem_toArray, List.getElem_cons_zero, List.getElem_cons_succ, List.setIfInBounds_toArray, List.set_cons_zero, List.set_cons_succ]
                        refine wpAnyH_take (i := 5) (v := .string (str c.s)) rfl (by kernel_rfl) (by kernel_rfl) (by kernel_rfl) (fun _ _ _ h => h) (Or.inl ⟨by rfl, fun x hx => by have hc := HGI.out _ hx; go_simp⟩) hSq14 ?_
                        simp only [Act.put, List.getElem_toArray, List.getElem_cons_zero, List.getElem_cons_succ, List.setIfInBounds_toArray, List.set_cons_zero, List.set_cons_succ]
                        refine wpAnyH_take (i := 6) (v := .slice (some ⟨g, o, none⟩) n cc) rfl (by kernel_rfl) (by kernel_rfl) (by kernel_rfl) (fun _ _ _ h => h) (Or.inl ⟨by rfl, fun x hx => by go_simp⟩) hSq14 ?_
                        simp only [Act.put, List.getElem_toArray, List.getElem_cons_zero, List.getElem_cons_succ, List.setIfInBounds_toArray, List.set_cons_zero, List.set_cons_succ]
                        refine wpAnyH_take (i := 7) (v := .int .i64 k) rfl (by kernel_rfl) (by kernel_rfl) (by kernel_rfl) (fun _ _ _ h => h) (Or.inl ⟨by rfl, fun x hx => by go_simp⟩) hSq14 ?_
                        simp only [Act.put, List.getElem_toArray, List.getElem_cons_zero, List.getElem_cons_succ, List.setIfInBounds_toArray, List.set_cons_zero, List.set_cons_succ]
                        refine wpAnyH_take (i := 8) (v := .pointer (some ⟨g, o + k * 34, none⟩)) rfl (by kernel_rfl) (by kernel_rfl) (by kernel_rfl) (fun _ _ _ h => h) (Or.inl ⟨by rfl, fun x hx => by go_simp⟩) hSq14 ?_
                        simp only [Act.put, List.getElem_toArray, List.getElem_cons_zero, List.getElem_cons_succ, List.setIfInBounds_toArray, List.set_cons_zero, List.set_cons_succ]
                        refine wpAnyH_take (i := 9) (v := .pointer (some ⟨g, o + k * 34 + 33, none⟩)) rfl (by kernel_rfl) (by kernel_rfl) (by kernel_rfl) (fun _ _ _ h => h) (Or.inl ⟨by rfl, fun x hx => by go_simp⟩) hSq14 ?_
                        simp only [Act.put, List.getElem_toArray, List.getElem_cons_zero, List.getElem_cons_succ, List.setIfInBounds_toArray, List.set_cons_zero, List.set_cons_succ]
                        refine wpAnyH_take (i := 10) (v := .string (str x.s)) rfl (by kernel_rfl) (by kernel_rfl) (by kernel_rfl) (fun _ _ _ h => h) (Or.inl ⟨by rfl, fun x hx => by have hc := HXS.out _ hx; go_simp⟩) hSq14 ?_
                        simp only [Act.put, List.getElem_toArray, List.getElem_cons_zero, List.getElem_cons_succ, List.setIfInBounds_toArray, List.set_cons_zero, List.set_cons_succ]
                        refine wpAnyH_take (i := 11) (v := .bool false) rfl (by kernel_rfl) (by kernel_rfl) (by kernel_rfl) (fun _ _ _ h => h) (Or.inl ⟨by rfl, fun x hx => by go_simp⟩) hSq14 ?_
                        simp only [Act.put, List.getElem_toArray, List.getElem_cons_zero, List.getElem_cons_succ, List.setIfInBounds_toArray, List.set_cons_zero, List.set_cons_succ]
                        refine wpAnyH_take (i := 12) (v := .bool false) rfl (by kernel_rfl) (by kernel_rfl) (by kernel_rfl) (fun _ _ _ h => h) (Or.inl ⟨by rfl, fun x hx => by go_simp⟩) hSq14 ?_
                        simp only [Act.put, List.getElem_toArray, List.getElem_cons_zero, List.getElem_cons_succ, List.setIfInBounds_toArray, List.set_cons_zero, List.set_cons_succ]
                        refine wpAnyH_ready (rs := [13]) (by kernel_rfl) (by simp) ?_
                        refine AllReadyH.cons rfl (fun K hK => ?_) AllReadyH.nil
                        go_simp
                        refine hK.out _ _ hSq14 (fun hSq15 => ?_)
                        clear hK K hSq14
                        refine wpAnyH_done (by kernel_rfl) ?_ _
                        have hB9 := Lib.hid hSq15
                        clear hSq15 hne1 hne2
                        go_wp2_with fail
                        go_roundw
                        case rel => exact ⟨i + 1, false, by omega, by go_num, rfl, HM5, hB9⟩
                        case measure => simp [intOf]; omega
                  · obtain rfl : q = i := by omega
                    have hbt : B = true := hM.out.iff.2 (by
                      by_cases hh : x.h ∈ hv
                      · exact .inl hh
                      · obtain ⟨j, hj, c, h1, h2⟩ := met_there MT.out (List.mem_of_getElem? HXI.out) hh
                        exact .inr ⟨j, c, by have := HQ.out; omega, h1, h2⟩)
                    subst hbt
                    clear hM
                    go_wp2_with fail
                    go_roundw
                    case rel => exact ⟨k + 1, by omega, by go_num, hB'⟩
                    case measure => simp [intOf]; omega
              · have H1 := H16
                have H8 := H86
                clear H16 H86
                go_wp2_with fail
                refine (Tell_calls _ v1 all _ (H1.out.below hB'.out) (by have := HN.out; omega)).mono ?_
                rintro e w3a ⟨v3a, rfl, La, hpa, hsa, Ra, h3a, hra, hma, b3a⟩
                have hB3a := hB'.out.trans (b3a.mono hB'.out.size)
                have HTDa := Lib.hid (meet_told FF.out hpa hma)
                have H3a := Lib.hid h3a.at
                have HRLa : Hid (Ra.length ≤ 100000) := by
                  show _ ≤ _
                  have := nodup_len hra.nodup (fun x hx => (HTDa.out x).1 hx)
                  rw [List.length_map] at this
                  have := HN.out
                  omega
                clear hpa hsa h3a hra hma b3a
                go_wp2_with fail
                refine (Want_calls _ _ Ra hv _ H3a.out (H8.out.below hB3a) HRLa.out (by have := HN8.out; omega)).mono ?_
                rintro e w4a ⟨v4a, R4a, rfl, h4a, hr4a, hm4a, b4a⟩
                have hB4a := hB3a.trans (b4a.mono hB3a.size)
                have hl4a := meet_want FF.out HTDa.out hr4a hm4a
                rw [List.take_of_length_le (by omega)] at h4a
                have H4a := Lib.hid h4a.at
                have HR4a := Lib.hid hr4a
                have HM4a := Lib.hid hm4a
                clear h4a hr4a hm4a b4a H3a HRLa hB3a
                obtain ⟨wa, wc, hv4, hcc⟩ := H4a.out.slice
                subst hv4
                obtain ⟨m, hm⟩ : ∃ m, m = R4a.length := ⟨_, rfl⟩
                have HMM := Lib.hid hm
                rw [← hm] at H4a hl4a ⊢
                have hb0 := Lib.hid hB4a
                have hb0' := Lib.hid hB4a
                clear hm hB4a
                go_wp2_with fail
                go_loopw [17] (fun iv wr => ∃ (i : Nat), 1 ≤ i ∧ i ≤ m + 1 ∧ iv = .int .i64 i ∧ Hid (Below w6.heap.size w6 wr) ∧ Hid (Below w4a.heap.size w4a wr)) (fun iv _ => m + 1 - (intOf iv).toNat)
                case atStart => exact ⟨1, by omega, by omega, rfl, hb0, Lib.hid (Below.refl _ _)⟩
                case round =>
                  obtain ⟨i, hi1, hi, rfl, hBz, hB'⟩ := hrel
                  obtain ⟨z7, rfl⟩ : ∃ z, z = wr := ⟨_, rfl⟩
                  clear hb0
                  by_cases hlt7 : i < m
                  · obtain ⟨hb, hhb⟩ : ∃ h, R4a[i]? = some h := ⟨_, List.getElem?_eq_getElem (by rw [← HMM.out]; exact hlt7)⟩
                    obtain ⟨ha, hha⟩ : ∃ h, R4a[i - 1]? = some h := ⟨_, List.getElem?_eq_getElem (by rw [← HMM.out]; omega)⟩
                    obtain ⟨gw, ow, rfl, _⟩ := H4a.out.range i hb hhb
                    obtain ⟨j, hj⟩ : ∃ j, j = i - 1 := ⟨_, rfl⟩
                    rw [← hj] at hha
                    have HRA : Hid (∀ z, Below w4a.heap.size w4a z → z.rangeAt gw (ow + j * 32) (ha.map bv)) := fun z hz => (H4a.out.below hz).range' j ha hha
                    have HRB : Hid (∀ z, Below w4a.heap.size w4a z → z.rangeAt gw (ow + i * 32) (hb.map bv)) := fun z hz => (H4a.out.below hz).range' i hb hhb
                    have HA : Hid (ha.length = 32) := H4a.out.1 ha (List.mem_of_getElem? hha)
                    have HB : Hid (hb.length = 32) := H4a.out.1 hb (List.mem_of_getElem? hhb)
                    have hlt : ltT ha hb = true := by
                      refine decide_eq_true ?_
                      obtain ⟨a1, a2⟩ := List.getElem?_eq_some_iff.1 hha
                      obtain ⟨b1, b2⟩ := List.getElem?_eq_some_iff.1 hhb
                      have := List.pairwise_iff_getElem.1 HR4a.out j i a1 b1 (by omega)
                      rwa [a2, b2] at this
                    have cL : ∀ y, Calls Try.prog 46 #[.agg (ha.map bv).toArray, .agg (hb.map bv).toArray] y fun e w' => e = .returned (.bool true) ∧ Below y.heap.size y w' := fun y => by have := Less_calls ha hb HA.out HB.out y; rwa [hlt] at this
                    have hij : IntKind.i64.wrap ((i : Int) - 1) = (j : Int) := by rw [IntWalk.i64_in _ (by omega)]; omega
                    have hjm : j < m := by omega
                    have hb3 := hB'.out
                    clear hj hha hhb hlt hB'
                    go_wp2_with fail
                    refine wp_region_held_drew (S := fun x => Below w4a.heap.size w4a x) (by kernel_rfl) (below_drewN hb3 1) (fun hSq4 => ?_)
                    refine wpAnyH_take (i := 0) (v := .slice (some ⟨gw, ow, none⟩) m wc) rfl (by kernel_rfl) (by kernel_rfl) (by kernel_rfl) (fun _ _ _ h => h) (Or.inl ⟨by rfl, fun x hx => by go_simp⟩) hSq4 ?_
                    simp only [Act.put, List.getElem_toArray, List.getElem_cons_zero, List.getElem_cons_succ, List.setIfInBounds_toArray, List.set_cons_zero, List.set_cons_succ]
                    refine wpAnyH_take (i := 1) (v := .int .i64 i) rfl (by kernel_rfl) (by kernel_rfl) (by kernel_rfl) (fun _ _ _ h => h) (Or.inl ⟨by rfl, fun x hx => by go_simp⟩) hSq4 ?_
                    simp only [Act.put, List.getElem_toArray, List.getElem_cons_zero, List.getElem_cons_succ, List.setIfInBounds_toArray, List.set_cons_zero, List.set_cons_succ]
                    refine wpAnyH_take (i := 2) (v := .int .i64 j) rfl (by kernel_rfl) (by kernel_rfl) (by kernel_rfl) (fun _ _ _ h => h) (Or.inl ⟨by rfl, fun x hx => by go_simp⟩) hSq4 ?_
                    simp only [Act.put, List.getElem_toArray, List.getElem_cons_zero, List.getElem_cons_succ, List.setIfInBounds_toArray, List.set_cons_zero, List.set_cons_succ]
                    refine wpAnyH_take (i := 3) (v := .pointer (some ⟨gw, ow + j * 32, none⟩)) rfl (by kernel_rfl) (by kernel_rfl) (by kernel_rfl) (fun _ _ _ h => h) (Or.inl ⟨by rfl, fun x hx => by go_simp⟩) hSq4 ?_
                    simp only [Act.put, List.getElem_toArray, List.getElem_cons_zero, List.getElem_cons_succ, List.setIfInBounds_toArray, List.set_cons_zero, List.set_cons_succ]
                    refine wpAnyH_take (i := 4) rfl (by kernel_rfl) (by kernel_rfl) (by kernel_rfl) (fun _ _ _ h => h) (yieldsIf_load_mid (by rfl) 23 (.tmp 190) rfl (gw) (ow + j * 32) (by rfl) (ha.map bv) _ (fun x hx => HRA.out _ hx) Try.underlying23 rfl (by rw [List.length_map, HA.out]; exact Try.sizeHash)) hSq4 ?_
                    simp only [Act.put, List.getElem_toArray, List.getElem_cons_zero, List.getElem_cons_succ, List.setIfInBounds_toArray, List.set_cons_zero, List.set_cons_succ]
                    refine wpAnyH_take (i := 5) (v := .slice (some ⟨gw, ow, none⟩) m wc) rfl (by kernel_rfl) (by kernel_rfl) (by kernel_rfl) (fun _ _ _ h => h) (Or.inl ⟨by rfl, fun x hx => by go_simp⟩) hSq4 ?_
                    simp only [Act.put, List.getElem_toArray, List.getElem_cons_zero, List.getElem_cons_succ, List.setIfInBounds_toArray, List.set_cons_zero, List.set_cons_succ]
                    refine wpAnyH_take (i := 6) (v := .int .i64 i) rfl (by kernel_rfl) (by kernel_rfl) (by kernel_rfl) (fun _ _ _ h => h) (Or.inl ⟨by rfl, fun x hx => by go_simp⟩) hSq4 ?_
                    simp only [Act.put, List.getElem_toArray, List.getElem_cons_zero, List.getElem_cons_succ, List.setIfInBounds_toArray, List.set_cons_zero, List.set_cons_succ]
                    refine wpAnyH_take (i := 7) (v := .pointer (some ⟨gw, ow + i * 32, none⟩)) rfl (by kernel_rfl) (by kernel_rfl) (by kernel_rfl) (fun _ _ _ h => h) (Or.inl ⟨by rfl, fun x hx => by go_simp⟩) hSq4 ?_
                    simp only [Act.put, List.getElem_toArray, List.getElem_cons_zero, List.getElem_cons_succ, List.setIfInBounds_toArray, List.set_cons_zero, List.set_cons_succ]
                    refine wpAnyH_take (i := 8) rfl (by kernel_rfl) (by kernel_rfl) (by kernel_rfl) (fun _ _ _ h => h) (yieldsIf_load_mid (by rfl) 23 (.tmp 194) rfl (gw) (ow + i * 32) (by rfl) (hb.map bv) _ (fun x hx => HRB.out _ hx) Try.underlying23 rfl (by rw [List.length_map, HB.out]; exact Try.sizeHash)) hSq4 ?_
                    simp only [Act.put, List.getElem_toArray, List.getElem_cons_zero, List.getElem_cons_succ, List.setIfInBounds_toArray, List.set_cons_zero, List.set_cons_succ]
                    refine wpAnyH_ready (rs := [9]) (by kernel_rfl) (by simp) ?_
                    refine AllReadyH.cons rfl (fun K hK => ?_) AllReadyH.nil
                    go_simp
                    go_wp2_with (go_at_call 46; refine (cL _).mono ?_; rintro e yq5 ⟨rfl, bq6⟩)
                    refine hK.out _ _ (hSq4.trans (bq6.mono (hSq4.size))) (fun hSq7 => ?_)
                    clear hK K hSq4 bq6
                    refine wpAnyH_take (i := 10) (v := .bool false) rfl (by kernel_rfl) (by kernel_rfl) (by kernel_rfl) (fun _ _ _ h => h) (Or.inl ⟨by rfl, fun x hx => by go_simp⟩) hSq7 ?_
                    simp only [Act.put, List.getElem_toArray, List.getElem_cons_zero, List.getElem_cons_succ, List.setIfInBounds_toArray, List.set_cons_zero, List.set_cons_succ]
                    refine wpAnyH_done (by kernel_rfl) ?_ _
                    have hB12 := Lib.hid hSq7
                    clear hSq7 hij cL
                    go_wp2_with fail
                    go_roundw
                    case rel => exact ⟨i + 1, by omega, by omega, by go_num, Lib.hid (hb0'.out.trans (hB12.out.mono hb0'.out.size)), hB12⟩
                    case measure => simp [intOf]; omega
                  · go_wp2_with fail
                    go_returns
                    exact ⟨rfl, HB6.out.trans (hBz.out.mono HB6.out.size)⟩
  · clear hb0
    go_wp2_with fail
    refine (awake19_calls _).mono ?_
    rintro e w2 ⟨rfl, b2⟩
    have hB2 := b1.trans (b2.mono b1.size)
    clear b1 b2
    go_wp2_with fail
    refine (awake19_calls _).mono ?_
    rintro e w3 ⟨rfl, b3⟩
    have hB3 := hB2.trans (b3.mono hB2.size)
    clear b3 hB2
    go_wp2_with fail
    go_returns
    exact ⟨rfl, hB3⟩
end Go.Proofs.Ytlomofcnknpciaa
