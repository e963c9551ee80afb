/-
  Rows of digests of one's own; the law's plain; the document's Has and Alike.
-/
import Derived.Test.YtjjmcogdohnhjaaShaCmp
import Derived.Test.YtjjmcogdohnhjaaHashAt
import Derived.Test.YtjjmcogdohnhjaaRd
set_option linter.unusedSimpArgs false
set_option linter.unusedVariables false
namespace Go.Proofs.Ytjjmcogdohnhjaa
open Go.RowKit

/-- A row of digests of one's own. -/
def HashOwn (w : World) (base : Nat) (e : TypeId) (v : Value) (l : List (List UInt8)) : Prop := (∀ h ∈ l, h.length = 32) ∧ w.ownsRow base e 32 v l.length (l.flatMap (·.map bv))
theorem HashOwn.below {w w' : World} {base : Nat} {e : TypeId} {v : Value} {l : List (List UInt8)} (h : HashOwn w base e v l) (b : Below w.heap.size w w') : HashOwn w' base e v l := ⟨h.1, own_below h.2 b⟩
theorem HashOwn.kept {w w' : World} {base : Nat} {e : TypeId} {v : Value} {l : List (List UInt8)} {row : Option Nat} (h : HashOwn w base e v l) (gr : w.grownBy w' row) (hr : v.ownBlock = none ∨ v.ownBlock ≠ row) : HashOwn w' base e v l := ⟨h.1, h.2.kept gr hr⟩
theorem HashOwn.at {w : World} {base : Nat} {e : TypeId} {v : Value} {l : List (List UInt8)} (h : HashOwn w base e v l) : HashesAt w v l := HashesAt.own h.2 h.1 rfl
theorem HashOwn.lt {w : World} {base : Nat} {e : TypeId} {v : Value} {l : List (List UInt8)} (h : HashOwn w base e v l) : ∀ q, v.ownBlock = some q → base ≤ q ∧ q < w.heap.size := fun q hq => h.2.lt q hq
theorem HashOwn.nil (w : World) (base : Nat) (e : TypeId) : HashOwn w base e (.slice none 0 0) [] := ⟨fun h hh => (by cases hh), World.ownsRow_nil _ _ _ _⟩
theorem HashOwn.slice {w : World} {base : Nat} {e : TypeId} {v : Value} {l : List (List UInt8)} (h : HashOwn w base e v l) : ∃ ao c, v = .slice ao l.length c := own_slice h.2
theorem bs_one (h : List UInt8) : ∀ u ∈ h.map bv, u.oneCell' = true := fun u hu => by
  obtain ⟨c, _, rfl⟩ := List.mem_map.1 hu
  rfl
/-- append of one digest. -/
theorem wp_append_h {P : Program} {o : Oper} {a : Act} {w : World} {K : Act → World → Prop} {Q : Exit → Act → World → Prop} (s x : Operand) (t : TypeId)
    (ho : o.op = .call { callee := .builtin .append, args := #[s, x], argTypes := #[t, t] }) (base : Nat) (e : TypeId) (ht : P.underlying t = some (.slice e)) (hi : (P.info? e).map (fun i => (i.zero, i.size, i.bytes)) = some (some (.agg Z32), 32, 32))
    (v : Value) (L : List (List UInt8)) (h : List UInt8) (hh : h.length = 32) (hs : a.eval s = v) (hown : HashOwn w base e v L) (g c : Nat) (hx : a.eval x = .slice (some ⟨g, 0, none⟩) 1 c) (e2 : TypeId) (hg : Blk w g (h.map bv).toArray e2) (hn : L.length ≤ 1000000) (hbase : base ≤ w.heap.size)
    (hK : ∀ v' w', HashOwn w' base e v' (L ++ [h]) → w.grownBy w' v.ownBlock → K (a.put o.dst v') w') : o.wp P a w K Q := by
  obtain ⟨i, hi1, hz, hsz, hby⟩ := info_parts hi
  have e1 : (L ++ [h]).flatMap (·.map bv) = L.flatMap (·.map bv) ++ h.map bv := by simp
  refine wp_append_own w s x t ho base e i (.agg Z32) 32 32 ht hi1 hz hsz hby rfl (by decide) v _ _ hs hown.2 ⟨g, 0, none⟩ 1 c (h.map bv) hx (by simp [hh]) (fun j u hj => by rw [Addr.add_lit, Nat.zero_add]; exact hg.cell j u (by rw [List.getElem?_toArray]; exact hj)) (bs_one h) (by unfold maxLen; omega) (by omega) hbase fun v' w' h2 h3 _ => ?_
  refine hK v' w' ⟨fun q hq => ?_, by rw [e1, List.length_append]; exact h2⟩ h3
  rcases List.mem_append.1 hq with hq | hq
  · exact hown.1 q hq
  · rw [List.mem_singleton.1 hq]; exact hh
theorem wpList_append_h {P : Program} {ops : Array Oper} {rest : List Oper} {o : Oper} {a : Act} {w : World} {Q : Exit → Act → World → Prop} (hgd : o.guard = none) (s x : Operand) (t : TypeId)
    (ho : o.op = .call { callee := .builtin .append, args := #[s, x], argTypes := #[t, t] }) (base : Nat) (e : TypeId) (ht : P.underlying t = some (.slice e)) (hi : (P.info? e).map (fun i => (i.zero, i.size, i.bytes)) = some (some (.agg Z32), 32, 32))
    (v : Value) (L : List (List UInt8)) (h : List UInt8) (hh : h.length = 32) (hs : a.eval s = v) (hown : HashOwn w base e v L) (g c : Nat) (hx : a.eval x = .slice (some ⟨g, 0, none⟩) 1 c) (e2 : TypeId) (hg : Blk w g (h.map bv).toArray e2) (hn : L.length ≤ 1000000) (hbase : base ≤ w.heap.size)
    (hK : ∀ v' w', HashOwn w' base e v' (L ++ [h]) → w.grownBy w' v.ownBlock → wpList P ops Q rest (a.put o.dst v') w') : wpList P ops Q (o :: rest) a w :=
  wpList_plain hgd fun _ hk => wp_append_h s x t ho base e ht hi v L h hh hs hown g c hx e2 hg hn hbase fun v' w' h1 h2 => hk _ _ (hK v' w' h1 h2)
/-- []T of one digest: the new block and the new world get names. -/
theorem wp_bsH {P : Program} {o : Oper} {a : Act} {w : World} {K : Act → World → Prop} {Q : Exit → Act → World → Prop} (t e : TypeId) (x : Operand) (ho : o.op = .buildSlice t 1 #[(0, x)])
    (h : List UInt8) (hh : h.length = 32) (hx : a.eval x = .agg (h.map bv).toArray) (hu : P.underlying t = some (.slice e)) (hz : (P.info? e).map (fun i => (i.zero, i.size)) = some (some (.agg Z32), 32))
    (hK : ∀ g w', g = w.heap.size → w'.heap.size = g + 1 → Below w.heap.size w w' → Blk w' g (h.map bv).toArray e → K (a.put o.dst (.slice (some ⟨g, 0, none⟩) 1 1)) w') : o.wp P a w K Q := by
  cases hi : P.info? e with
  | none => simp [hi] at hz
  | some ie =>
    simp [hi] at hz
    obtain ⟨hz1, hz2⟩ := hz
    refine Go.wp_buildSlice t e 1 #[(0, x)] ho (h.map bv).toArray ie (.agg Z32) hu hi hz1 (by rw [hz2]; omega) (by rw [hz2]; omega) ?_ (hK _ _ rfl (by simp) (below_alloc1 _ _) (Blk.new _ _ _))
    have e1 : (#[(0, x)].map fun (i, x) => (i, a.eval x)).toList = (([Value.agg (h.map bv).toArray].zipIdx 0).map fun x => (x.2, x.1)) := by simp [hx]
    rw [e1, hz2, Go.Great.fill_whole (by omega) [.agg (h.map bv).toArray] _ (by simp [Value.cells, hh]) (by simp)]
    simp [Value.cells]
theorem wpList_bsH {P : Program} {ops : Array Oper} {rest : List Oper} {o : Oper} {a : Act} {w : World} {Q : Exit → Act → World → Prop} (hgd : o.guard = none) (t e : TypeId) (x : Operand) (ho : o.op = .buildSlice t 1 #[(0, x)])
    (h : List UInt8) (hh : h.length = 32) (hx : a.eval x = .agg (h.map bv).toArray) (hu : P.underlying t = some (.slice e)) (hz : (P.info? e).map (fun i => (i.zero, i.size)) = some (some (.agg Z32), 32))
    (hK : ∀ g w', g = w.heap.size → w'.heap.size = g + 1 → Below w.heap.size w w' → Blk w' g (h.map bv).toArray e → wpList P ops Q rest (a.put o.dst (.slice (some ⟨g, 0, none⟩) 1 1)) w') : wpList P ops Q (o :: rest) a w :=
  wpList_plain hgd fun _ hk => wp_bsH t e x ho h hh hx hu hz fun g w' h1 h2 h3 h4 => hk _ _ (hK g w' h1 h2 h3 h4)
theorem Try.infoH3 : (Try.prog.info? 38).map (fun i => (i.zero, i.size, i.bytes)) = some (some (.agg Z32), 32, 32) := by kernel_rfl
theorem Try.infoH2 : (Try.prog.info? 38).map (fun i => (i.zero, i.size)) = some (some (.agg Z32), 32) := by kernel_rfl
theorem Try.infoHash3 : (Try.prog.info? 39).map (fun i => (i.zero, i.size, i.bytes)) = some (some (.agg Z32), 32, 32) := by kernel_rfl
theorem Try.infoHash2 : (Try.prog.info? 39).map (fun i => (i.zero, i.size)) = some (some (.agg Z32), 32) := by kernel_rfl
theorem Try.sizeA32 : (Try.prog.info? 38).map (·.size) = some 32 := by kernel_rfl
theorem Try.sizeHash : (Try.prog.info? 39).map (·.size) = some 32 := by kernel_rfl
theorem Try.zeroHash : (Try.prog.info? 39).bind (·.zero) = some (.agg Z32) := by kernel_rfl
theorem Try.zeroA32 : (Try.prog.info? 38).bind (·.zero) = some (.agg Z32) := by kernel_rfl
set_option maxHeartbeats 4000000 in
set_option maxRecDepth 100000 in
/-- bevylaw04.plain. -/
theorem plain4_calls (v : Value) (l : List (List UInt8)) (w : World) (h : HashesAt w v l) (hn : l.length ≤ 1000000) :
    Calls Try.prog 12 #[v] w fun e w' => ∃ v', e = .returned v' ∧ HashOwn w' w.heap.size 38 v' l ∧ Below w.heap.size w w' := by
  obtain ⟨ao, c, rfl, hc⟩ := h.slice
  have H := Lib.hid h
  obtain ⟨n, hne⟩ : ∃ n, n = l.length := ⟨_, rfl⟩
  rw [← hne] at hc hn H ⊢
  have HN := Lib.hid hne
  clear h hne
  go_enter Try.func12, Try.ntmps12
  go_wp2_with fail
  go_loopw [3, 4] (fun x i wr => ∃ (k : Nat) (v : Value), k ≤ n ∧ v = x ∧ i = .int .i64 (k : Nat) ∧ Hid (HashOwn wr w.heap.size 38 v (l.take k)) ∧ Hid (Below w.heap.size w wr)) (fun _ i _ => n - (intOf i).toNat)
  case atStart => exact ⟨0, _, by omega, rfl, rfl, HashOwn.nil _ _ _, Below.refl _ _⟩
  case round =>
    obtain ⟨k, v, hk, rfl, rfl, hO, hB⟩ := hrel
    have h2 := H.out.below hB.out
    by_cases hlt : k < n
    · obtain ⟨s, hs⟩ : ∃ s, l[k]? = some s := ⟨l[k]'(by rw [← HN.out]; exact hlt), List.getElem?_eq_getElem _⟩
      have HS := Lib.hid (H.out.1 s (List.mem_of_getElem? hs))
      obtain ⟨g, o, rfl, hr⟩ := h2.range k s hs
      have hnx : Hid (l.take (k + 1) = l.take k ++ [s]) := by
        show _ = _
        obtain ⟨h3, h4⟩ := List.getElem?_eq_some_iff.1 hs
        rw [List.take_succ_eq_append_getElem h3, h4]
      have hlk : Hid ((l.take k).length = k) := by show _ = _; rw [List.length_take, ← HN.out]; omega
      have HRG := Lib.hid hr
      have hb0 := hB.out
      have hws := hB.out.size
      obtain ⟨aov, cv, rfl⟩ := hO.out.slice
      rw [hlk.out] at hO ⊢
      clear hs h2 hr
      go_wp2_with (first | ((with_reducible show wpList _ _ _ (⟨some 15, _, _, _, _, _⟩ :: _) _ _); refine wpList_load_mid rfl 39 (.tmp 14) rfl g (o + k * 32) (by rfl) (s.map bv) _ HRG.out Try.underlying39 rfl (by rw [List.length_map, HS.out]; exact Try.sizeHash) ?_) | ((with_reducible show wpList _ _ _ (⟨some 16, _, _, _, _, _⟩ :: _) _ _); refine wpList_bsH rfl 31 38 (.tmp 15) rfl s HS.out (by rfl) Try.underlying31 Try.infoH2 ?_; intro q w3 eq3 sz3 b3 hN3; have hO3 := hO.out.below b3; have hb3 := hb0.trans (b3.mono hb0.size)) | ((with_reducible show wpList _ _ _ (⟨some 17, _, _, _, _, _⟩ :: _) _ _); refine wpList_append_h rfl (.tmp 11) (.tmp 16) 31 rfl w.heap.size 38 Try.underlying31 Try.infoH3 _ (l.take k) s HS.out (by rfl) hO3 q 1 (by rfl) _ hN3 (by rw [hlk.out]; omega) hb3.size ?_; intro v4 w4 hO4 g4; have hb4 := hb3.grown g4 hb3.size (fun q hq => (hO3.lt q hq).1); clear hO3 hN3 b3 eq3 sz3 g4))
      have HO4 := Lib.hid hO4
      have HB4 := Lib.hid hb4
      clear hO4 hb4 hO hB hb0 hb3
      go_roundw
      case rel => exact ⟨k + 1, _, by omega, rfl, by go_num, by rw [hnx.out]; exact HO4, HB4⟩
      case measure => simp [intOf]; omega
    · obtain rfl : k = n := by omega
      have hf : Hid (l.take k = l) := by show _ = _; rw [HN.out, List.take_length]
      rw [hf.out] at hO
      go_wp2_with fail
      go_returns
      exact ⟨_, rfl, hO.out, hB.out⟩
end Go.Proofs.Ytjjmcogdohnhjaa
