/-
  The law's 'plain': digests as the document has them.
-/
import Derived.Test.YtjlpdbaknhbgdaaBookHash
set_option linter.unusedSimpArgs false
set_option linter.unusedVariables false
namespace Go.Proofs.Ytjlpdbaknhbgdaa
open Go.RowKit

set_option maxHeartbeats 4000000 in
set_option maxRecDepth 100000 in
/-- bevylaw05.plain. -/
theorem plain4_calls (v : Value) (l : List (List UInt8)) (w : World) (h : HashesAt w v l) (hn : l.length ≤ 1000000) :
    Calls Try.prog 12 #[v] w fun e w' => ∃ v', e = .returned v' ∧ HashOwn w' w.heap.size 25 v' l ∧ Below w.heap.size w w' := by
  obtain ⟨ao, c, rfl, hc⟩ := h.slice
  have H := Lib.hid h
  obtain ⟨n, hne⟩ : ∃ n, n = l.length := ⟨_, rfl⟩
  rw [← hne] at hc hn H ⊢
  have HN := Lib.hid hne
  clear h hne
  go_enter Try.func12, Try.ntmps12
  go_wp2_with fail
  go_loopw [3, 4] (fun x i wr => ∃ (k : Nat) (v : Value), k ≤ n ∧ v = x ∧ i = .int .i64 (k : Nat) ∧ Hid (HashOwn wr w.heap.size 25 v (l.take k)) ∧ Hid (Below w.heap.size w wr)) (fun _ i _ => n - (intOf i).toNat)
  case atStart => exact ⟨0, _, by omega, rfl, rfl, HashOwn.nil _ _ _, Below.refl _ _⟩
  case round =>
    obtain ⟨k, v, hk, rfl, rfl, hO, hB⟩ := hrel
    have h2 := H.out.below hB.out
    by_cases hlt : k < n
    · obtain ⟨s, hs⟩ : ∃ s, l[k]? = some s := ⟨l[k]'(by rw [← HN.out]; exact hlt), List.getElem?_eq_getElem _⟩
      have HS := Lib.hid (H.out.1 s (List.mem_of_getElem? hs))
      obtain ⟨g, o, rfl, hr⟩ := h2.range k s hs
      have hnx : Hid (l.take (k + 1) = l.take k ++ [s]) := by
        show _ = _
        obtain ⟨h3, h4⟩ := List.getElem?_eq_some_iff.1 hs
        rw [List.take_succ_eq_append_getElem h3, h4]
      have hlk : Hid ((l.take k).length = k) := by show _ = _; rw [List.length_take, ← HN.out]; omega
      have HRG := Lib.hid hr
      have hb0 := hB.out
      have hws := hB.out.size
      obtain ⟨aov, cv, rfl⟩ := hO.out.slice
      rw [hlk.out] at hO ⊢
      clear hs h2 hr
      go_wp2_with (first | ((with_reducible show wpList _ _ _ (⟨some 15, _, _, _, _, _⟩ :: _) _ _); refine wpList_load_mid rfl 26 (.tmp 14) rfl g (o + k * 32) (by rfl) (s.map bv) _ HRG.out Try.underlying26 rfl (by rw [List.length_map, HS.out]; exact Try.sizeHash) ?_) | ((with_reducible show wpList _ _ _ (⟨some 16, _, _, _, _, _⟩ :: _) _ _); refine wpList_bsH rfl 33 25 (.tmp 15) rfl s HS.out (by rfl) Try.underlying33 Try.infoH2 ?_; intro q w3 eq3 sz3 b3 hN3; have hO3 := hO.out.below b3; have hb3 := hb0.trans (b3.mono hb0.size)) | ((with_reducible show wpList _ _ _ (⟨some 17, _, _, _, _, _⟩ :: _) _ _); refine wpList_append_h rfl (.tmp 11) (.tmp 16) 33 rfl w.heap.size 25 Try.underlying33 Try.infoH3 _ (l.take k) s HS.out (by rfl) hO3 q 1 (by rfl) _ hN3 (by rw [hlk.out]; omega) hb3.size ?_; intro v4 w4 hO4 g4; have hb4 := hb3.grown g4 hb3.size (fun q hq => (hO3.lt q hq).1); clear hO3 hN3 b3 eq3 sz3 g4))
      have HO4 := Lib.hid hO4
      have HB4 := Lib.hid hb4
      clear hO4 hb4 hO hB hb0 hb3
      go_roundw
      case rel => exact ⟨k + 1, _, by omega, rfl, by go_num, by rw [hnx.out]; exact HO4, HB4⟩
      case measure => simp [intOf]; omega
    · obtain rfl : k = n := by omega
      have hf : Hid (l.take k = l) := by show _ = _; rw [HN.out, List.take_length]
      rw [hf.out] at hO
      go_wp2_with fail
      go_returns
      exact ⟨_, rfl, hO.out, hB.out⟩
end Go.Proofs.Ytjlpdbaknhbgdaa
