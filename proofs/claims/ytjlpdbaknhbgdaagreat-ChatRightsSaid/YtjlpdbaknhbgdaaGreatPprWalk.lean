/-
  ppr: the way down from a seed to a place (walk), with a nil book.
-/
import Derived.Test.YtjlpdbaknhbgdaaGreatQBase
import Derived.Test.YtjlpdbaknhbgdaaGreatQPpr
import Derived.Deep.LoopGhost
import Derived.Deep.CutRange
import Derived.Laws.ResultCell
set_option linter.unusedSimpArgs false
set_option linter.unusedVariables false
namespace Go.Proofs.YtjlpdbaknhbgdaaGreat
open Go.RowKit

/-- A slice literal of two strings. -/
theorem wp_bsStr2 {P : Program} {o : Oper} {a : Act} {w : World} {K : Act → World → Prop} {Q : Exit → Act → World → Prop} (t e : TypeId) (x y : Operand) (ho : o.op = .buildSlice t 2 #[(0, x), (1, y)])
    (s r : ByteArray) (hx : a.eval x = .string s) (hy : a.eval y = .string r) (hu : P.underlying t = some (.slice e)) (z : ByteArray) (hz : (P.info? e).map (fun i => (i.zero, i.size)) = some (some (.string z), 1))
    (h : ∀ g w', g = w.heap.size → w'.heap.size = g + 1 → Below w.heap.size w w' → Blk w' g #[.string s, .string r] e → K (a.put o.dst (.slice (some ⟨g, 0, none⟩) 2 2)) w') : o.wp P a w K Q := by
  cases hi : P.info? e with
  | none => simp [hi] at hz
  | some ie =>
    simp [hi] at hz
    obtain ⟨hz1, hz2⟩ := hz
    refine Go.wp_buildSlice t e 2 #[(0, x), (1, y)] ho #[.string s, .string r] ie (.string z) hu hi hz1 (by rw [hz2]; decide) (by rw [hz2]; decide) ?_ (h _ _ rfl (by simp) (below_alloc1 _ _) (Blk.new _ _ _))
    have e1 : (#[(0, x), (1, y)].map fun (i, x) => (i, a.eval x)).toList = (([Value.string s, Value.string r].zipIdx 0).map fun x => (x.2, x.1)) := by simp [hx, hy]
    rw [e1, hz2, Go.Great.fill_whole (by decide) [.string s, .string r] _ (by simp [Value.cells]) (by simp)]
    simp [Value.cells]
theorem sd_get (s : Sd) (j : Nat) (hj : j < s.h.length) : s.cells.toArray[2 + j]? = some (.int .u8 (s.h[j].toNat : Int)) := by
  rw [List.getElem?_toArray, show 2 + j = j + 1 + 1 by omega]
  simp [Sd.cells, hj, bv]
theorem conv_sd {w : World} {g : Nat} {s : Sd} {T : TypeId} (hs : s.h.length = 32) (h : Blk w g s.cells.toArray T) : (convert 48 9 (.slice (some ⟨g, 2, none⟩) 32 32)).run Tryz.prog w = .ok (.string (str s.h)) w := by
  have := run_convert_bytes_back (P := Tryz.prog) w 48 9 5 ⟨g, 2, none⟩ 32 s.h Tryz.underlying48 Tryz.underlying5 Tryz.underlying9 (fun j hj => by
    rw [Addr.add_lit]
    exact h.cell (2 + j) _ (sd_get s j hj))
  rw [hs] at this
  exact this
theorem sd_range {w : World} {g : Nat} {s : Sd} {T : TypeId} (h : Blk w g s.cells.toArray T) : w.rangeAt g 2 (s.h.map bv) := fun j u hj => by
  refine h.cell (2 + j) u ?_
  rw [List.getElem?_toArray, show 2 + j = j + 1 + 1 by omega]
  simpa [Sd.cells] using hj
theorem two_range0 {w : World} {g : Nat} {s t : Sd} {T : TypeId} (h : Blk w g (s.cells ++ t.cells).toArray T) (hs : s.h.length = 32) : w.rangeAt g 0 s.cells := fun j u hj => by
  have hlt := (List.getElem?_eq_some_iff.1 hj).1
  refine h.cell _ u ?_
  rw [List.getElem?_toArray, Nat.zero_add, List.getElem?_append_left hlt]; exact hj
theorem two_range1 {w : World} {g : Nat} {s t : Sd} {T : TypeId} (h : Blk w g (s.cells ++ t.cells).toArray T) (hs : s.h.length = 32) : w.rangeAt g 34 t.cells := fun j u hj => by
  refine h.cell _ u ?_
  have := Sd.cells_len s hs
  rw [List.getElem?_toArray, List.getElem?_append_right (by omega), show 34 + j - s.cells.length = j by omega]; exact hj
theorem range_hash {w : World} {g off : Nat} {s : Sd} (h : w.rangeAt g off s.cells) : w.rangeAt g (off + 2) (s.h.map bv) := fun j u hj => by
  have := h (j + 2) u (by simpa [Sd.cells] using hj)
  rwa [show off + 2 + j = off + (j + 2) by omega]
abbrev z68 : Array Value := (z34 ++ z34).toArray
theorem Tryz.zeroSeed2 : (Tryz.prog.info? 232).bind (·.zero) = some (.agg z68) := by kernel_rfl
theorem stK_len (B p : Nat) (s : Sd) : ∀ k, (stK B p s k).2.1.length ≤ k ∧ (stK B p s k).2.2.length ≤ k
  | 0 => ⟨Nat.le_refl _, Nat.le_refl _⟩
  | k + 1 => by
    obtain ⟨h1, h2⟩ := stK_len B p s k
    simp only [stK]
    split
    · exact ⟨Nat.le_succ_of_le h1, by rw [List.length_append]; exact Nat.succ_le_succ h2⟩
    · exact ⟨by rw [List.length_append]; exact Nat.succ_le_succ h1, Nat.le_succ_of_le h2⟩
theorem stK_pl (B p : Nat) (s : Sd) (h : s.pl < 2 ^ s.lv) : ∀ k, (stK B p s k).1.pl < 2 ^ (stK B p s k).1.lv
  | 0 => h
  | k + 1 => by
    have h1 := stK_pl B p s h k
    simp only [stK]
    split
    · simp only [Sd.child, Nat.pow_succ]; simp; omega
    · simp only [Sd.child, Nat.pow_succ]; simp; omega
/-- slices.Reverse at any row of one's own. -/
theorem Reverse_any (base n : Nat) (v : Value) (l : List Sd) (w : World) (h : w.ownsRow base 227 34 v n (l.flatMap Sd.cells)) (hn : n = l.length) (hl : ∀ s ∈ l, s.h.length = 32) :
    Calls Tryz.prog 141 #[v] w fun e w' => e = .returned (.tuple #[]) ∧ SeedsAt w' v l.reverse ∧ w.grownBy w' v.ownBlock := by
  subst hn
  have h' := h
  rcases h.2 with ⟨rfl, h0⟩ | ⟨g, cap, cur, rfl, hb, hg, h1, h2, h3, h4⟩
  · have : l = [] := List.eq_nil_of_length_eq_zero h0
    subst this
    refine (ReverseNil_calls w).mono ?_
    rintro e w' ⟨rfl, rfl⟩
    exact ⟨rfl, ⟨by simp, .inl ⟨rfl, rfl⟩⟩, World.grownBy.refl _ _⟩
  · exact Reverse_calls base g cap l w h' hl h1
theorem SeedsAt.grown {w w' : World} {v : Value} {l : List Sd} {row : Option Nat} (h : SeedsAt w v l) (g : w.grownBy w' row) (hne : ∀ q, v.ownBlock = some q → some q ≠ row) : SeedsAt w' v l := by
  refine ⟨h.1, ?_⟩
  rcases h.2 with h0 | ⟨b, c, rfl, hc, hlt, hcell⟩
  · exact .inl h0
  · refine .inr ⟨b, c, rfl, hc, Nat.lt_of_lt_of_le hlt g.size, fun j u hj => ?_⟩
    have := g.block b hlt (hne b rfl)
    have h1 := hcell j u hj
    simp only [World.cell?, this] at h1 ⊢
    exact h1
theorem seeds_cells_len : ∀ (l : List Sd), (∀ s ∈ l, s.h.length = 32) → (l.flatMap Sd.cells).length = l.length * 34
  | [], _ => rfl
  | s :: t, h => by rw [List.flatMap_cons, List.length_append, Sd.cells_len s (h s List.mem_cons_self), seeds_cells_len t (fun x hx => h x (List.mem_cons_of_mem _ hx)), List.length_cons]; omega
theorem seeds_cells_one (l : List Sd) : ∀ u ∈ l.flatMap Sd.cells, u.oneCell' = true := fun u hu => by
  obtain ⟨s, _, h⟩ := List.mem_flatMap.1 hu
  exact s.cells_one u h
/-- append of seeds that lie anywhere to a row of one's own. -/
theorem wp_append_seeds {o : Oper} {a : Act} {w : World} {K : Act → World → Prop} {Q : Exit → Act → World → Prop} (s x : Operand)
    (ho : o.op = .call { callee := .builtin .append, args := #[s, x], argTypes := #[154, 154] }) (base : Nat) (v vr : Value) (n : Nat) (L R : List Sd) (hs : a.eval s = v) (hx : a.eval x = vr)
    (hown : w.ownsRow base 227 34 v n (L.flatMap Sd.cells)) (hR : SeedsAt w vr R) (hL : ∀ s ∈ L, s.h.length = 32) (hn : n = L.length) (hb1 : L.length ≤ 1000000) (hb2 : R.length ≤ 1000000) (hbase : base ≤ w.heap.size)
    (h : ∀ v' w', SeedsAt w' v' (L ++ R) → w.grownBy w' v.ownBlock → (∀ q, v'.ownBlock = some q → base ≤ q) → K (a.put o.dst v') w') : o.wp Tryz.prog a w K Q := by
  obtain ⟨i, hi, hz, hsz, hby⟩ := info_parts Tryz.infoSeed
  subst hn
  have hLR : ∀ s ∈ L ++ R, s.h.length = 32 := fun s hs => by
    rcases List.mem_append.1 hs with h1 | h1
    · exact hL s h1
    · exact hR.1 s h1
  rcases hR.2 with ⟨rfl, rfl⟩ | ⟨g, c, rfl, hc, hlt, hcell⟩
  · have hrun := run_append_owned_none (P := Tryz.prog) (w := w) base 154 o.type 227 i 34 Tryz.underlying154 hi v _ _ hown
    unfold Oper.wp
    simp [execOp, ho, resolve, invoke, builtin, hs, hx, hrun, Result.andThen]
    rw [List.append_nil] at h
    exact h _ _ (SeedsAt.own hown hL rfl) (World.grownBy.refl _ _) (fun q hq => (hown.lt q hq).1)
  · refine wp_append_own w s x 154 ho base 227 i (.agg z34.toArray) 34 48 Tryz.underlying154 hi hz hsz hby rfl (by decide) v _ _ hs hown ⟨g, 0, none⟩ R.length c (R.flatMap Sd.cells) hx (seeds_cells_len R hR.1) (fun j u hj => by rw [Addr.add_lit, Nat.zero_add]; exact hcell j u hj) (seeds_cells_one R) (by unfold maxLen; omega) (by omega) hbase fun v' w' h2 h3 _ => ?_
    rw [← List.flatMap_append] at h2
    exact h v' w' (SeedsAt.own h2 hLR (by simp)) h3 (fun q hq => (h2.lt q hq).1)
theorem ret_blk2 {P : Program} {fn : Func} {R : Ending → World → Prop} {a : Act} {w : World} {p u : Tmp} {ty : TypeId} (hf : fn.results = #[.cell p ty, .tmp u]) (g : Nat) (t : TypeId) (cs : Array Value) (d : TypeDesc)
    (hp : a.tmps.getD p undef = .pointer (some ⟨g, 0, none⟩)) (hg : Blk w g cs t)
    (hu : P.underlying ty = some d) (hd : (match d with | .struct _ | .array _ _ => true | _ => false) = true) (hi : (P.info? ty).map (·.size) = some cs.size)
    (hdf : a.defers = []) (hR : R (.returned (.tuple #[.agg cs, a.tmps.getD u undef])) w) : bodyPost P fn R .ret a w := by
  refine bodyPost_ret (v := .tuple #[.agg cs, a.tmps.getD u undef]) ?_ hdf hR
  rw [results_cell_tmp hf, hp]
  simp [asAddr, run_loadVar_row w g t ty cs (0, 0) d hg hu hd hi, Result.andThen]
theorem andOne (q : Nat) (h : q < 4294967296) : bits BinOp.and IntKind.i64 (q : Int) 1 = ((q % 2 : Nat) : Int) := by
  have e1 : (BitVec.ofInt 64 (q : Int)).toNat = q := by rw [BitVec.toNat_ofInt]; omega
  have e2 : (BitVec.ofInt 64 (1 : Int)).toNat = 1 := by rw [BitVec.toNat_ofInt]; rfl
  show IntKind.i64.wrap ((BitVec.ofInt 64 (q : Int) &&& BitVec.ofInt 64 (1 : Int)).toNat : Int) = _
  rw [BitVec.toNat_and, e1, e2, Nat.and_one_is_mod, wrapI _ (by omega) (by omega)]
theorem Tryz.zsHash : (Tryz.prog.info? 23).map (fun i => (i.zero, i.size)) = some (some (.agg Z32), 32) := by kernel_rfl
theorem shrP (p k : Nat) (hk : k ≤ 64) : Op.shift .shr .i64 (p : Int) .i64 (k : Int) = pure (.int .i64 ((p / 2 ^ k : Nat) : Int)) := by
  rw [shift_shr_any .i64 .i64 (p : Int) (k : Int) (by omega), show min ((k : Int)).toNat (IntKind.bits .i64) = k by simp [IntKind.bits]; omega]
  congr 2

set_option maxHeartbeats 8000000 in
set_option maxRecDepth 100000 in
theorem walk_calls (r B p i : Nat) (l : List Sd) (s : Sd) (w : World) (h : RowAt w r B l) (hi : l[i]? = some s) (hB : B ≤ 32) (hlv : s.lv ≤ B) (hpl : s.pl < 2 ^ s.lv) (hp : p < 4294967296) (hil : i < 1000000) :
    Calls Tryz.prog 70 #[.pointer (some ⟨r, 0, none⟩), .pointer none, .int .i64 i, .int .i64 p] w fun e w' => ∃ v, e = .returned (.tuple #[.agg ((keyT (stK B p s (B - s.lv)).1.h).map bv).toArray, v]) ∧ SeedsAt w' v ((stK B p s (B - s.lv)).2.1 ++ (stK B p s (B - s.lv)).2.2.reverse) ∧ Below w.heap.size w w' := by
  obtain ⟨v0, h1, h2⟩ := h
  obtain ⟨ao, c, rfl, hc⟩ := h2.slice
  obtain ⟨hlt, _⟩ := List.getElem?_eq_some_iff.1 hi
  obtain ⟨g0, rfl⟩ : ∃ g, ao = some ⟨g, 0, none⟩ := by
    rcases h2.2 with ⟨h3, h4⟩ | ⟨g, c', h3, h4, h5⟩
    · rw [h4] at hlt; simp at hlt
    · simp at h3; exact ⟨g, h3.1⟩
  have hs32 : s.h.length = 32 := h2.1 s (List.mem_of_getElem? hi)
  have HSS := Lib.hid hs32
  have hW1 : Blk (w.alloc (.cells Z32 23)) r #[.int .i64 B, .slice (some ⟨g0, 0, none⟩) l.length c] 158 := h1.alloc _
  have hc1 := hW1.cell 1 _ rfl
  have hrlt := h1.lt
  have hrg := (h2.below (below_alloc1 w (.cells Z32 23))).range i s hi
  rw [Nat.mul_comm] at hrg
  have HRG := Lib.hid hrg
  have hR0 := (Blk.new w Z32 23).alloc (.cells z34.toArray 227)
  have hS0 : Blk ((w.alloc (.cells Z32 23)).alloc (.cells z34.toArray 227)) (w.heap.size + 1) z34.toArray 227 := blk_new1 _ _ _ _
  have hb0 : Below w.heap.size w ((w.alloc (.cells Z32 23)).alloc (.cells z34.toArray 227)) := ((Below.refl _ _).alloc (Nat.le_refl _) _).alloc (by simp) _
  have HROW := Lib.hid h1
  clear hrg h2 h1 hi hs32 hW1
  go_enter Tryz.func70, Tryz.ntmps70
  go_wp2_with (first | ((with_reducible show wpList _ _ _ (⟨some 22, _, _, _, _, _⟩ :: _) _ _); refine wpList_load_mid rfl 227 (.tmp 21) rfl g0 (i * 34) (by rfl) s.cells _ HRG.out Tryz.underlying227 rfl (by rw [Sd.cells_len s HSS.out]; exact Tryz.sizeSeed) ?_) | ((with_reducible show wpList _ _ _ (⟨none, Op.store _ (.tmp 10) _, _, _, _, _⟩ :: _) _ _); refine wpList_storeBlk rfl 227 (.tmp 10) (.tmp 22) rfl (w.heap.size + 1) s.cells.toArray (by rfl) (by rfl) _ _ hS0 (by rw [List.size_toArray, Sd.cells_len s HSS.out]; exact Tryz.sizeSeed) (by rw [show s.cells.toArray.size = 34 from by rw [List.size_toArray]; exact Sd.cells_len s HSS.out]; rfl) s.cells_all ?_; intro w3 hS3 g3; have hR3 := hR0.grown g3 (by simp); have hb3 : Below w.heap.size w w3 := below_new hb0 g3 (by omega) hb0.size; have hsz3 := g3.size; clear hS0 hR0 hb0 g3 hc1))
  have HS3 := Lib.hid hS3
  have HR3 := Lib.hid hR3
  have HB3 := Lib.hid hb3
  have hsz4 : w.heap.size + 2 ≤ w3.heap.size := by simp at hsz3; omega
  clear hS3 hR3 hb3 hsz3
  go_loopg [11, 12] (B - s.lv) (fun k x y wr => ∃ (n : Nat) (vl vr : Value), n + k = B - s.lv ∧ x = vl ∧ y = vr ∧ Hid (Blk wr (w.heap.size + 1) (stK B p s n).1.cells.toArray 227) ∧ Hid (wr.ownsRow (w.heap.size + 2) 227 34 vl (stK B p s n).2.1.length ((stK B p s n).2.1.flatMap Sd.cells)) ∧ Hid (wr.ownsRow (w.heap.size + 2) 227 34 vr (stK B p s n).2.2.length ((stK B p s n).2.2.flatMap Sd.cells)) ∧ Hid (∀ q, vl.ownBlock = some q → vr.ownBlock ≠ some q) ∧ Hid (Blk wr w.heap.size Z32 23) ∧ Hid (Below w.heap.size w wr) ∧ w.heap.size + 2 ≤ wr.heap.size)
  case atStart => exact ⟨0, _, _, by omega, rfl, rfl, HS3.out, World.ownsRow_nil _ _ _ _, World.ownsRow_nil _ _ _ _, (by intro q hq; simp [Value.ownBlock] at hq), HR3.out, HB3.out, hsz4⟩
  case round =>
    obtain ⟨n, vl, vr, hn, rfl, rfl, hS, hL, hR, hD, hZ, hbw, hws⟩ := hrel
    clear HS3 HR3 HB3 hsz4
    have hlvn := stK_lv B p s n
    obtain ⟨h32, hL32, hR32⟩ := stK_h B p s HSS.out n
    obtain ⟨T, hT⟩ : ∃ T, T = (stK B p s n).1 := ⟨_, rfl⟩
    rw [← hT] at hlvn h32
    have HTT := Lib.hid hT
    have hS' : Blk wr (w.heap.size + 1) T.cells.toArray 227 := by rw [hT]; exact hS.out
    have hrow : Blk wr r #[.int .i64 B, .slice (some ⟨g0, 0, none⟩) l.length c] 158 := HROW.out.below hbw.out HROW.out.lt
    have H32 := Lib.hid h32
    have hbwr := Below.refl wr.heap.size wr
    have HLV := Lib.hid hlvn
    obtain ⟨i0, hi0, hiz, his, hib⟩ := info_parts Tryz.infoSeed
    have HII := Lib.hid (⟨hi0, hiz, his, hib⟩ : _ ∧ _ ∧ _ ∧ _)
    clear hT h32 hi0 hiz his hib
    by_cases hlt2 : T.lv < B
    · have hd3 : decide ((T.lv : Int) < (B : Int)) = true := by simp; omega
      go_wp2_with fail
      refine wp_region_held_drew (S := fun x => Blk x (w.heap.size + 1) T.cells.toArray 227 ∧ Blk x (r) #[.int .i64 B, .slice (some ⟨g0, 0, none⟩) l.length c] 158 ∧ Below wr.heap.size wr x) (by kernel_rfl) ⟨hS'.drew, hrow.drew, below_drewN hbwr 1⟩ (fun hSq1 => ?_)
      refine wpAnyH_take (i := 0) (v := .pointer (some ⟨w.heap.size + 1, 0, none⟩)) rfl (by kernel_rfl) (by kernel_rfl) (by kernel_rfl) (fun _ _ _ h => h) (Or.inl ⟨by rfl, fun x hx => by go_simp⟩) hSq1 ?_
      simp only [Act.put, List.getElem_toArray, List.getElem_cons_zero, List.getElem_cons_succ, List.setIfInBounds_toArray, List.set_cons_zero, List.set_cons_succ]
      refine wpAnyH_take (i := 1) (v := .int .i64 T.lv) rfl (by kernel_rfl) (by kernel_rfl) (by kernel_rfl) (fun _ _ _ h => h) (Or.inl ⟨by rfl, fun x hx => by have hc := hx.1.cell 0 (.int .i64 T.lv) rfl; go_simp⟩) hSq1 ?_
      simp only [Act.put, List.getElem_toArray, List.getElem_cons_zero, List.getElem_cons_succ, List.setIfInBounds_toArray, List.set_cons_zero, List.set_cons_succ]
      refine wpAnyH_take (i := 2) (v := .pointer (some ⟨r, 0, none⟩)) rfl (by kernel_rfl) (by kernel_rfl) (by kernel_rfl) (fun _ _ _ h => h) (Or.inl ⟨by rfl, fun x hx => by go_simp⟩) hSq1 ?_
      simp only [Act.put, List.getElem_toArray, List.getElem_cons_zero, List.getElem_cons_succ, List.setIfInBounds_toArray, List.set_cons_zero, List.set_cons_succ]
      refine wpAnyH_take (i := 3) (v := .pointer (some ⟨r, 0, none⟩)) rfl (by kernel_rfl) (by kernel_rfl) (by kernel_rfl) (fun _ _ _ h => h) (Or.inl ⟨by rfl, fun x hx => by go_simp⟩) hSq1 ?_
      simp only [Act.put, List.getElem_toArray, List.getElem_cons_zero, List.getElem_cons_succ, List.setIfInBounds_toArray, List.set_cons_zero, List.set_cons_succ]
      refine wpAnyH_take (i := 4) (v := .pointer (some ⟨r, 0, none⟩)) rfl (by kernel_rfl) (by kernel_rfl) (by kernel_rfl) (fun _ _ _ h => h) (Or.inl ⟨by rfl, fun x hx => by go_simp⟩) hSq1 ?_
      simp only [Act.put, List.getElem_toArray, List.getElem_cons_zero, List.getElem_cons_succ, List.setIfInBounds_toArray, List.set_cons_zero, List.set_cons_succ]
      refine wpAnyH_take (i := 5) (v := .int .i64 B) rfl (by kernel_rfl) (by kernel_rfl) (by kernel_rfl) (fun _ _ _ h => h) (Or.inl ⟨by rfl, fun x hx => by have hc := hx.2.1.cell 0 (.int .i64 B) rfl; go_simp⟩) hSq1 ?_
      simp only [Act.put, List.getElem_toArray, List.getElem_cons_zero, List.getElem_cons_succ, List.setIfInBounds_toArray, List.set_cons_zero, List.set_cons_succ]
      refine wpAnyH_take (i := 6) (v := .bool true) rfl (by kernel_rfl) (by kernel_rfl) (by kernel_rfl) (fun _ _ _ h => h) (Or.inl ⟨by rfl, fun x hx => by go_simp; omega⟩) hSq1 ?_
      simp only [Act.put, List.getElem_toArray, List.getElem_cons_zero, List.getElem_cons_succ, List.setIfInBounds_toArray, List.set_cons_zero, List.set_cons_succ]
      refine wpAnyH_done (by kernel_rfl) ?_ _
      have hS5 := hSq1.1
      have hrow5 := hSq1.2.1
      have hb5 := hSq1.2.2
      clear hSq1 hS' hrow hbwr
      have hb6 := Below.refl (World.drew wr).heap.size (World.drew wr)
      generalize hWW : (World.drew wr) = W5 at hS5 hrow5 hb5 hb6 ⊢
      have hpow : 2 ^ T.lv ≤ 2 ^ 32 := Nat.pow_le_pow_right (by omega) (by omega)
      have hTpl : T.pl < 4294967296 := by have := stK_pl B p s hpl n; rw [← HTT.out] at this; omega
      obtain ⟨D, hDD⟩ : ∃ D, D = downT := ⟨_, rfl⟩
      obtain ⟨h0, hh0⟩ : ∃ h, h = D false T.h := ⟨_, rfl⟩
      obtain ⟨h1, hh1⟩ : ∃ h, h = D true T.h := ⟨_, rfl⟩
      have L0 : Hid (h0.length = 32) := by show _ = _; rw [hh0, hDD]; exact downT_len _ _
      have L1 : Hid (h1.length = 32) := by show _ = _; rw [hh1, hDD]; exact downT_len _ _
      have c1 : ∀ (g : Nat) y, Blk y g #[.string (str lLeft), .string (str T.h)] 9 → Calls Tryz.prog 94 #[.slice (some ⟨g, 0, none⟩) 2 2] y fun e w' => e = .returned (.agg (h0.map bv).toArray) ∧ Below y.heap.size y w' := fun g y hg => by
        have hst : StrsAt y (some ⟨g, 0, none⟩) 2 [lLeft, T.h] := StrsAt.blk [lLeft, T.h] hg
        have := Sum_calls (some ⟨g, 0, none⟩) 2 2 [lLeft, T.h] y hst (by simp [H32.out, lLeft]) (by omega)
        rw [hh0, hDD]
        simpa [downT] using this
      have c2 : ∀ (g : Nat) y, Blk y g #[.string (str lRight), .string (str T.h)] 9 → Calls Tryz.prog 94 #[.slice (some ⟨g, 0, none⟩) 2 2] y fun e w' => e = .returned (.agg (h1.map bv).toArray) ∧ Below y.heap.size y w' := fun g y hg => by
        have hst : StrsAt y (some ⟨g, 0, none⟩) 2 [lRight, T.h] := StrsAt.blk [lRight, T.h] hg
        have := Sum_calls (some ⟨g, 0, none⟩) 2 2 [lRight, T.h] y hst (by simp [H32.out, lRight]) (by omega)
        rw [hh1, hDD]
        simpa [downT] using this
      have H0 := Lib.hid hh0
      have H1 := Lib.hid hh1
      have HDD := Lib.hid hDD
      obtain ⟨N1, hN1⟩ : ∃ N, N = T.lv + 1 := ⟨_, rfl⟩
      obtain ⟨M0, hM0⟩ : ∃ N, N = 2 * T.pl := ⟨_, rfl⟩
      obtain ⟨M1, hM1⟩ : ∃ N, N = 2 * T.pl + 1 := ⟨_, rfl⟩
      have HN1 := Lib.hid hN1
      have HM0 := Lib.hid hM0
      have HM1 := Lib.hid hM1
      clear hN1 hM0 hM1
      have HZS : Hid (((Sd.mk N1 M0 h0).cells ++ (Sd.mk N1 M1 h1).cells).toArray.size = 68) := by show _ = _; rw [List.size_toArray, List.length_append, Sd.cells_len ⟨N1, M0, h0⟩ L0.out, Sd.cells_len ⟨N1, M1, h1⟩ L1.out]
      clear hh0 hh1 hDD
      go_wp2_with fail
      go_cut [13] from 23 to 94 (fun p wx => ∃ g, p = .pointer (some ⟨g, 0, none⟩) ∧ Hid (Blk wx g ((Sd.mk N1 M0 h0).cells ++ (Sd.mk N1 M1 h1).cells).toArray 232) ∧ Hid (Below W5.heap.size W5 wx) ∧ W5.heap.size ≤ g)
      case first =>
        clear H0 H1 HDD HTT hS hL hR hD HROW HRG HSS hZ hbw hn hL32 hR32 hrow5 hb5
        refine wp_region_held_drew (S := fun x => Blk x (w.heap.size + 1) T.cells.toArray 227 ∧ Below W5.heap.size W5 x) (by kernel_rfl) ⟨hS5.drew, below_drewN hb6 1⟩ (fun hSq2 => ?_)
        refine wpAnyH_take (i := 0) (v := .pointer (some ⟨w.heap.size + 1, 0, none⟩)) rfl (by kernel_rfl) (by kernel_rfl) (by kernel_rfl) (fun _ _ _ h => h) (Or.inl ⟨by rfl, fun x hx => by go_simp⟩) hSq2 ?_
        simp only [Act.put, List.getElem_toArray, List.getElem_cons_zero, List.getElem_cons_succ, List.setIfInBounds_toArray, List.set_cons_zero, List.set_cons_succ]
        refine wpAnyH_take (i := 1) (v := .int .i64 T.lv) rfl (by kernel_rfl) (by kernel_rfl) (by kernel_rfl) (fun _ _ _ h => h) (Or.inl ⟨by rfl, fun x hx => by have hc := hx.1.cell 0 (.int .i64 T.lv) rfl; go_simp⟩) hSq2 ?_
        simp only [Act.put, List.getElem_toArray, List.getElem_cons_zero, List.getElem_cons_succ, List.setIfInBounds_toArray, List.set_cons_zero, List.set_cons_succ]
        refine wpAnyH_take (i := 2) (v := .int .i64 (N1 : Nat)) rfl (by kernel_rfl) (by kernel_rfl) (by kernel_rfl) (fun _ _ _ h => h) (Or.inl ⟨by rfl, fun x hx => by have e1 := HN1.out; have e2 := HM0.out; have e3 := HM1.out; go_simp; rw [wrapI _ (by omega) (by omega)]; try omega⟩) hSq2 ?_
        simp only [Act.put, List.getElem_toArray, List.getElem_cons_zero, List.getElem_cons_succ, List.setIfInBounds_toArray, List.set_cons_zero, List.set_cons_succ]
        refine wpAnyH_take (i := 3) (v := .pointer (some ⟨w.heap.size + 1, 1, none⟩)) rfl (by kernel_rfl) (by kernel_rfl) (by kernel_rfl) (fun _ _ _ h => h) (Or.inl ⟨by rfl, fun x hx => by go_simp⟩) hSq2 ?_
        simp only [Act.put, List.getElem_toArray, List.getElem_cons_zero, List.getElem_cons_succ, List.setIfInBounds_toArray, List.set_cons_zero, List.set_cons_succ]
        refine wpAnyH_take (i := 4) (v := .int .i64 T.pl) rfl (by kernel_rfl) (by kernel_rfl) (by kernel_rfl) (fun _ _ _ h => h) (Or.inl ⟨by rfl, fun x hx => by have hc := hx.1.cell 1 (.int .i64 T.pl) rfl; go_simp⟩) hSq2 ?_
        simp only [Act.put, List.getElem_toArray, List.getElem_cons_zero, List.getElem_cons_succ, List.setIfInBounds_toArray, List.set_cons_zero, List.set_cons_succ]
        refine wpAnyH_take (i := 5) (v := .int .i64 (M0 : Nat)) rfl (by kernel_rfl) (by kernel_rfl) (by kernel_rfl) (fun _ _ _ h => h) (Or.inl ⟨by rfl, fun x hx => by have e1 := HN1.out; have e2 := HM0.out; have e3 := HM1.out; go_simp; rw [wrapI _ (by omega) (by omega)]; try omega⟩) hSq2 ?_
        simp only [Act.put, List.getElem_toArray, List.getElem_cons_zero, List.getElem_cons_succ, List.setIfInBounds_toArray, List.set_cons_zero, List.set_cons_succ]
        refine wpAnyH_take (i := 6) (v := .pointer (some ⟨w.heap.size + 1, 2, none⟩)) rfl (by kernel_rfl) (by kernel_rfl) (by kernel_rfl) (fun _ _ _ h => h) (Or.inl ⟨by rfl, fun x hx => by go_simp⟩) hSq2 ?_
        simp only [Act.put, List.getElem_toArray, List.getElem_cons_zero, List.getElem_cons_succ, List.setIfInBounds_toArray, List.set_cons_zero, List.set_cons_succ]
        refine wpAnyH_take (i := 7) (v := .slice (some ⟨w.heap.size + 1, 2, none⟩) 32 32) rfl (by kernel_rfl) (by kernel_rfl) (by kernel_rfl) (fun _ _ _ h => h) (Or.inl ⟨by rfl, fun x hx => by go_simp⟩) hSq2 ?_
        simp only [Act.put, List.getElem_toArray, List.getElem_cons_zero, List.getElem_cons_succ, List.setIfInBounds_toArray, List.set_cons_zero, List.set_cons_succ]
        refine wpAnyH_take (i := 8) (v := .string (str T.h)) rfl (by kernel_rfl) (by kernel_rfl) (by kernel_rfl) (fun _ _ _ h => h) (Or.inl ⟨by rfl, fun x hx => by have hcv := conv_sd H32.out hx.1; go_simp⟩) hSq2 ?_
        simp only [Act.put, List.getElem_toArray, List.getElem_cons_zero, List.getElem_cons_succ, List.setIfInBounds_toArray, List.set_cons_zero, List.set_cons_succ]
        refine wpAnyH_take (i := 12) (v := .pointer (some ⟨w.heap.size + 1, 0, none⟩)) rfl (by kernel_rfl) (by kernel_rfl) (by kernel_rfl) (fun _ _ _ h => h) (Or.inl ⟨by rfl, fun x hx => by go_simp⟩) hSq2 ?_
        simp only [Act.put, List.getElem_toArray, List.getElem_cons_zero, List.getElem_cons_succ, List.setIfInBounds_toArray, List.set_cons_zero, List.set_cons_succ]
        refine wpAnyH_take (i := 13) (v := .int .i64 T.lv) rfl (by kernel_rfl) (by kernel_rfl) (by kernel_rfl) (fun _ _ _ h => h) (Or.inl ⟨by rfl, fun x hx => by have hc := hx.1.cell 0 (.int .i64 T.lv) rfl; go_simp⟩) hSq2 ?_
        simp only [Act.put, List.getElem_toArray, List.getElem_cons_zero, List.getElem_cons_succ, List.setIfInBounds_toArray, List.set_cons_zero, List.set_cons_succ]
        refine wpAnyH_take (i := 14) (v := .int .i64 (N1 : Nat)) rfl (by kernel_rfl) (by kernel_rfl) (by kernel_rfl) (fun _ _ _ h => h) (Or.inl ⟨by rfl, fun x hx => by have e1 := HN1.out; have e2 := HM0.out; have e3 := HM1.out; go_simp; rw [wrapI _ (by omega) (by omega)]; try omega⟩) hSq2 ?_
        simp only [Act.put, List.getElem_toArray, List.getElem_cons_zero, List.getElem_cons_succ, List.setIfInBounds_toArray, List.set_cons_zero, List.set_cons_succ]
        refine wpAnyH_take (i := 15) (v := .pointer (some ⟨w.heap.size + 1, 1, none⟩)) rfl (by kernel_rfl) (by kernel_rfl) (by kernel_rfl) (fun _ _ _ h => h) (Or.inl ⟨by rfl, fun x hx => by go_simp⟩) hSq2 ?_
        simp only [Act.put, List.getElem_toArray, List.getElem_cons_zero, List.getElem_cons_succ, List.setIfInBounds_toArray, List.set_cons_zero, List.set_cons_succ]
        refine wpAnyH_take (i := 16) (v := .int .i64 T.pl) rfl (by kernel_rfl) (by kernel_rfl) (by kernel_rfl) (fun _ _ _ h => h) (Or.inl ⟨by rfl, fun x hx => by have hc := hx.1.cell 1 (.int .i64 T.pl) rfl; go_simp⟩) hSq2 ?_
        simp only [Act.put, List.getElem_toArray, List.getElem_cons_zero, List.getElem_cons_succ, List.setIfInBounds_toArray, List.set_cons_zero, List.set_cons_succ]
        refine wpAnyH_take (i := 17) (v := .int .i64 (M0 : Nat)) rfl (by kernel_rfl) (by kernel_rfl) (by kernel_rfl) (fun _ _ _ h => h) (Or.inl ⟨by rfl, fun x hx => by have e1 := HN1.out; have e2 := HM0.out; have e3 := HM1.out; go_simp; rw [wrapI _ (by omega) (by omega)]; try omega⟩) hSq2 ?_
        simp only [Act.put, List.getElem_toArray, List.getElem_cons_zero, List.getElem_cons_succ, List.setIfInBounds_toArray, List.set_cons_zero, List.set_cons_succ]
        refine wpAnyH_take (i := 18) (v := .int .i64 (M1 : Nat)) rfl (by kernel_rfl) (by kernel_rfl) (by kernel_rfl) (fun _ _ _ h => h) (Or.inl ⟨by rfl, fun x hx => by have e1 := HN1.out; have e2 := HM0.out; have e3 := HM1.out; go_simp; rw [wrapI _ (by omega) (by omega)]; try omega⟩) hSq2 ?_
        simp only [Act.put, List.getElem_toArray, List.getElem_cons_zero, List.getElem_cons_succ, List.setIfInBounds_toArray, List.set_cons_zero, List.set_cons_succ]
        refine wpAnyH_take (i := 19) (v := .pointer (some ⟨w.heap.size + 1, 2, none⟩)) rfl (by kernel_rfl) (by kernel_rfl) (by kernel_rfl) (fun _ _ _ h => h) (Or.inl ⟨by rfl, fun x hx => by go_simp⟩) hSq2 ?_
        simp only [Act.put, List.getElem_toArray, List.getElem_cons_zero, List.getElem_cons_succ, List.setIfInBounds_toArray, List.set_cons_zero, List.set_cons_succ]
        refine wpAnyH_take (i := 20) (v := .slice (some ⟨w.heap.size + 1, 2, none⟩) 32 32) rfl (by kernel_rfl) (by kernel_rfl) (by kernel_rfl) (fun _ _ _ h => h) (Or.inl ⟨by rfl, fun x hx => by go_simp⟩) hSq2 ?_
        simp only [Act.put, List.getElem_toArray, List.getElem_cons_zero, List.getElem_cons_succ, List.setIfInBounds_toArray, List.set_cons_zero, List.set_cons_succ]
        refine wpAnyH_take (i := 21) (v := .string (str T.h)) rfl (by kernel_rfl) (by kernel_rfl) (by kernel_rfl) (fun _ _ _ h => h) (Or.inl ⟨by rfl, fun x hx => by have hcv := conv_sd H32.out hx.1; go_simp⟩) hSq2 ?_
        simp only [Act.put, List.getElem_toArray, List.getElem_cons_zero, List.getElem_cons_succ, List.setIfInBounds_toArray, List.set_cons_zero, List.set_cons_succ]
        refine wpAnyH_ready (rs := [9, 22, 26]) (by kernel_rfl) (by simp) ?_
        refine AllReadyH.cons rfl (fun K hK => ?_) ?_
        · rw [if_pos (by rfl)]
          refine wp_bsStr2 80 9 (.const (.string ⟨#[108, 101, 102, 116]⟩)) (.tmp 38) rfl (str lLeft) (str T.h) (by rfl) (by rfl) Tryz.underlying80 (str []) (by kernel_rfl) ?_
          intro gq6 yq4 egq7 ezq8 bq3 hEq5
          have lgq9 : W5.heap.size ≤ gq6 := by rw [egq7]; exact hSq2.2.size
          have lbq10 : w.heap.size + 1 < gq6 := by rw [egq7]; exact hSq2.1.lt
          refine hK.out _ _ ⟨hSq2.1.below bq3 hSq2.1.lt, hSq2.2.trans (bq3.mono hSq2.2.size)⟩ (fun hSq11 => ?_)
          clear hK K hSq2 bq3 egq7 ezq8
          refine wpAnyH_ready (rs := [10, 22, 26]) (by kernel_rfl) (by simp) ?_
          refine AllReadyH.cons rfl (fun K hK => ?_) ?_
          · go_simp
            go_wp2_with (go_at_call 94; refine (c1 _ _ hEq5).mono ?_; rintro e yq12 ⟨rfl, bq13⟩)
            have hEq14 := hEq5.below bq13 hEq5.lt
            refine hK.out _ _ ⟨hSq11.1.below bq13 hSq11.1.lt, hSq11.2.trans (bq13.mono hSq11.2.size)⟩ (fun hSq15 => ?_)
            clear hK K hSq11 bq13
            refine wpAnyH_take (i := 11) rfl (by kernel_rfl) (by kernel_rfl) (by kernel_rfl) (fun _ _ _ h => h) (yieldsIf_build (by rfl) 227 #[(0, .tmp 32), (1, .tmp 35), (2, .tmp 40)] rfl _ (Tryz.builtSeed N1 M0 h0 L0.out)) hSq15 ?_
            simp only [Act.put, List.getElem_toArray, List.getElem_cons_zero, List.getElem_cons_succ, List.setIfInBounds_toArray, List.set_cons_zero, List.set_cons_succ]
            refine wpAnyH_ready (rs := [22, 26]) (by kernel_rfl) (by simp) ?_
            refine AllReadyH.cons rfl (fun K hK => ?_) ?_
            · rw [if_pos (by rfl)]
              refine wp_bsStr2 80 9 (.const (.string ⟨#[114, 105, 103, 104, 116]⟩)) (.tmp 51) rfl (str lRight) (str T.h) (by rfl) (by rfl) Tryz.underlying80 (str []) (by kernel_rfl) ?_
              intro gq19 yq17 egq20 ezq21 bq16 hEq18
              have lgq22 : W5.heap.size ≤ gq19 := by rw [egq20]; exact hSq15.2.size
              have lbq23 : w.heap.size + 1 < gq19 := by rw [egq20]; exact hSq15.1.lt
              have hEq24 := hEq14.below bq16 hEq14.lt
              refine hK.out _ _ ⟨hSq15.1.below bq16 hSq15.1.lt, hSq15.2.trans (bq16.mono hSq15.2.size)⟩ (fun hSq25 => ?_)
              clear hK K hSq15 bq16 egq20 ezq21
              refine wpAnyH_ready (rs := [23, 26]) (by kernel_rfl) (by simp) ?_
              refine AllReadyH.cons rfl (fun K hK => ?_) ?_
              · go_simp
                go_wp2_with (go_at_call 94; refine (c2 _ _ hEq18).mono ?_; rintro e yq26 ⟨rfl, bq27⟩)
                have hEq28 := hEq24.below bq27 hEq24.lt
                have hEq29 := hEq18.below bq27 hEq18.lt
                refine hK.out _ _ ⟨hSq25.1.below bq27 hSq25.1.lt, hSq25.2.trans (bq27.mono hSq25.2.size)⟩ (fun hSq30 => ?_)
                clear hK K hSq25 bq27
                refine wpAnyH_take (i := 24) rfl (by kernel_rfl) (by kernel_rfl) (by kernel_rfl) (fun _ _ _ h => h) (yieldsIf_build (by rfl) 227 #[(0, .tmp 44), (1, .tmp 48), (2, .tmp 53)] rfl _ (Tryz.builtSeed N1 M1 h1 L1.out)) hSq30 ?_
                simp only [Act.put, List.getElem_toArray, List.getElem_cons_zero, List.getElem_cons_succ, List.setIfInBounds_toArray, List.set_cons_zero, List.set_cons_succ]
                refine wpAnyH_take (i := 25) rfl (by kernel_rfl) (by kernel_rfl) (by kernel_rfl) (fun _ _ _ h => h) (yieldsIf_build (by rfl) 232 #[(0, .tmp 41), (1, .tmp 54)] rfl _ (Tryz.builtSeeds ⟨N1, M0, h0⟩ ⟨N1, M1, h1⟩ L0.out L1.out)) hSq30 ?_
                simp only [Act.put, List.getElem_toArray, List.getElem_cons_zero, List.getElem_cons_succ, List.setIfInBounds_toArray, List.set_cons_zero, List.set_cons_succ]
                refine wpAnyH_ready (rs := [26]) (by kernel_rfl) (by simp) ?_
                refine AllReadyH.cons rfl (fun K hK => ?_) AllReadyH.nil
                rw [if_pos (by rfl)]
                refine wp_allocZ 232 rfl z68 Tryz.zeroSeed2 ?_
                intro gq34 yq32 egq35 ezq36 bq31 hEq33
                have lgq37 : W5.heap.size ≤ gq34 := by rw [egq35]; exact hSq30.2.size
                have lbq38 : w.heap.size + 1 < gq34 := by rw [egq35]; exact hSq30.1.lt
                have hEq39 := hEq28.below bq31 hEq28.lt
                have hEq40 := hEq29.below bq31 hEq29.lt
                refine hK.out _ _ ⟨hSq30.1.below bq31 hSq30.1.lt, hSq30.2.trans (bq31.mono hSq30.2.size)⟩ (fun hSq41 => ?_)
                clear hK K hSq30 bq31 egq35 ezq36
                refine wpAnyH_ready (rs := [27]) (by kernel_rfl) (by simp) ?_
                refine AllReadyH.cons rfl (fun K hK => ?_) AllReadyH.nil
                rw [if_pos (by rfl)]
                refine wp_storeBlk 232 (.tmp 13) (.tmp 55) rfl gq34 ((Sd.mk N1 M0 h0).cells ++ (Sd.mk N1 M1 h1).cells).toArray (by rfl) (by rfl) _ _ hEq33 (by rw [HZS.out]; exact Tryz.sizeSeed2) (by rw [HZS.out]; rfl) (by rw [List.all_toArray, List.all_append, ← List.all_toArray, ← List.all_toArray, Sd.cells_all, Sd.cells_all]; rfl) ?_
                intro yq42 hEq43 grq44
                refine hK.out _ _ ⟨hSq41.1.grown grq44 (by first | (simp; done) | (simp; omega)), below_new hSq41.2 grq44 lgq37 hSq41.2.size⟩ (fun hSq45 => ?_)
                clear hK K hSq41
                refine wpAnyH_done (by kernel_rfl) ?_ _
                go_wp2_with fail
                go_meet
                exact ⟨gq34, rfl, hEq43, hSq45.2, lgq37⟩
              refine AllReadyH.cons rfl (fun K hK => ?_) AllReadyH.nil
              rw [if_pos (by rfl)]
              refine wp_allocZ 232 rfl z68 Tryz.zeroSeed2 ?_
              intro gq49 yq47 egq50 ezq51 bq46 hEq48
              have lgq52 : W5.heap.size ≤ gq49 := by rw [egq50]; exact hSq25.2.size
              have lbq53 : w.heap.size + 1 < gq49 := by rw [egq50]; exact hSq25.1.lt
              have hEq54 := hEq24.below bq46 hEq24.lt
              have hEq55 := hEq18.below bq46 hEq18.lt
              refine hK.out _ _ ⟨hSq25.1.below bq46 hSq25.1.lt, hSq25.2.trans (bq46.mono hSq25.2.size)⟩ (fun hSq56 => ?_)
              clear hK K hSq25 bq46 egq50 ezq51
              refine wpAnyH_ready (rs := [23]) (by kernel_rfl) (by simp) ?_
              refine AllReadyH.cons rfl (fun K hK => ?_) AllReadyH.nil
              go_simp
              go_wp2_with (go_at_call 94; refine (c2 _ _ hEq55).mono ?_; rintro e yq57 ⟨rfl, bq58⟩)
              have hEq59 := hEq54.below bq58 hEq54.lt
              have hEq60 := hEq55.below bq58 hEq55.lt
              have hEq61 := hEq48.below bq58 hEq48.lt
              refine hK.out _ _ ⟨hSq56.1.below bq58 hSq56.1.lt, hSq56.2.trans (bq58.mono hSq56.2.size)⟩ (fun hSq62 => ?_)
              clear hK K hSq56 bq58
              refine wpAnyH_take (i := 24) rfl (by kernel_rfl) (by kernel_rfl) (by kernel_rfl) (fun _ _ _ h => h) (yieldsIf_build (by rfl) 227 #[(0, .tmp 44), (1, .tmp 48), (2, .tmp 53)] rfl _ (Tryz.builtSeed N1 M1 h1 L1.out)) hSq62 ?_
              simp only [Act.put, List.getElem_toArray, List.getElem_cons_zero, List.getElem_cons_succ, List.setIfInBounds_toArray, List.set_cons_zero, List.set_cons_succ]
              refine wpAnyH_take (i := 25) rfl (by kernel_rfl) (by kernel_rfl) (by kernel_rfl) (fun _ _ _ h => h) (yieldsIf_build (by rfl) 232 #[(0, .tmp 41), (1, .tmp 54)] rfl _ (Tryz.builtSeeds ⟨N1, M0, h0⟩ ⟨N1, M1, h1⟩ L0.out L1.out)) hSq62 ?_
              simp only [Act.put, List.getElem_toArray, List.getElem_cons_zero, List.getElem_cons_succ, List.setIfInBounds_toArray, List.set_cons_zero, List.set_cons_succ]
              refine wpAnyH_ready (rs := [27]) (by kernel_rfl) (by simp) ?_
              refine AllReadyH.cons rfl (fun K hK => ?_) AllReadyH.nil
              rw [if_pos (by rfl)]
              refine wp_storeBlk 232 (.tmp 13) (.tmp 55) rfl gq49 ((Sd.mk N1 M0 h0).cells ++ (Sd.mk N1 M1 h1).cells).toArray (by rfl) (by rfl) _ _ hEq61 (by rw [HZS.out]; exact Tryz.sizeSeed2) (by rw [HZS.out]; rfl) (by rw [List.all_toArray, List.all_append, ← List.all_toArray, ← List.all_toArray, Sd.cells_all, Sd.cells_all]; rfl) ?_
              intro yq63 hEq64 grq65
              refine hK.out _ _ ⟨hSq62.1.grown grq65 (by first | (simp; done) | (simp; omega)), below_new hSq62.2 grq65 lgq52 hSq62.2.size⟩ (fun hSq66 => ?_)
              clear hK K hSq62
              refine wpAnyH_done (by kernel_rfl) ?_ _
              go_wp2_with fail
              go_meet
              exact ⟨gq49, rfl, hEq64, hSq66.2, lgq52⟩
            refine AllReadyH.cons rfl (fun K hK => ?_) AllReadyH.nil
            rw [if_pos (by rfl)]
            refine wp_allocZ 232 rfl z68 Tryz.zeroSeed2 ?_
            intro gq70 yq68 egq71 ezq72 bq67 hEq69
            have lgq73 : W5.heap.size ≤ gq70 := by rw [egq71]; exact hSq15.2.size
            have lbq74 : w.heap.size + 1 < gq70 := by rw [egq71]; exact hSq15.1.lt
            have hEq75 := hEq14.below bq67 hEq14.lt
            refine hK.out _ _ ⟨hSq15.1.below bq67 hSq15.1.lt, hSq15.2.trans (bq67.mono hSq15.2.size)⟩ (fun hSq76 => ?_)
            clear hK K hSq15 bq67 egq71 ezq72
            refine wpAnyH_ready (rs := [22]) (by kernel_rfl) (by simp) ?_
            refine AllReadyH.cons rfl (fun K hK => ?_) AllReadyH.nil
            rw [if_pos (by rfl)]
            refine wp_bsStr2 80 9 (.const (.string ⟨#[114, 105, 103, 104, 116]⟩)) (.tmp 51) rfl (str lRight) (str T.h) (by rfl) (by rfl) Tryz.underlying80 (str []) (by kernel_rfl) ?_
            intro gq80 yq78 egq81 ezq82 bq77 hEq79
            have lgq83 : W5.heap.size ≤ gq80 := by rw [egq81]; exact hSq76.2.size
            have lbq84 : w.heap.size + 1 < gq80 := by rw [egq81]; exact hSq76.1.lt
            have hEq85 := hEq75.below bq77 hEq75.lt
            have hEq86 := hEq69.below bq77 hEq69.lt
            refine hK.out _ _ ⟨hSq76.1.below bq77 hSq76.1.lt, hSq76.2.trans (bq77.mono hSq76.2.size)⟩ (fun hSq87 => ?_)
            clear hK K hSq76 bq77 egq81 ezq82
            refine wpAnyH_ready (rs := [23]) (by kernel_rfl) (by simp) ?_
            refine AllReadyH.cons rfl (fun K hK => ?_) AllReadyH.nil
            go_simp
            go_wp2_with (go_at_call 94; refine (c2 _ _ hEq79).mono ?_; rintro e yq88 ⟨rfl, bq89⟩)
            have hEq90 := hEq85.below bq89 hEq85.lt
            have hEq91 := hEq86.below bq89 hEq86.lt
            have hEq92 := hEq79.below bq89 hEq79.lt
            refine hK.out _ _ ⟨hSq87.1.below bq89 hSq87.1.lt, hSq87.2.trans (bq89.mono hSq87.2.size)⟩ (fun hSq93 => ?_)
            clear hK K hSq87 bq89
            refine wpAnyH_take (i := 24) rfl (by kernel_rfl) (by kernel_rfl) (by kernel_rfl) (fun _ _ _ h => h) (yieldsIf_build (by rfl) 227 #[(0, .tmp 44), (1, .tmp 48), (2, .tmp 53)] rfl _ (Tryz.builtSeed N1 M1 h1 L1.out)) hSq93 ?_
            simp only [Act.put, List.getElem_toArray, List.getElem_cons_zero, List.getElem_cons_succ, List.setIfInBounds_toArray, List.set_cons_zero, List.set_cons_succ]
            refine wpAnyH_take (i := 25) rfl (by kernel_rfl) (by kernel_rfl) (by kernel_rfl) (fun _ _ _ h => h) (yieldsIf_build (by rfl) 232 #[(0, .tmp 41), (1, .tmp 54)] rfl _ (Tryz.builtSeeds ⟨N1, M0, h0⟩ ⟨N1, M1, h1⟩ L0.out L1.out)) hSq93 ?_
            simp only [Act.put, List.getElem_toArray, List.getElem_cons_zero, List.getElem_cons_succ, List.setIfInBounds_toArray, List.set_cons_zero, List.set_cons_succ]
            refine wpAnyH_ready (rs := [27]) (by kernel_rfl) (by simp) ?_
            refine AllReadyH.cons rfl (fun K hK => ?_) AllReadyH.nil
            rw [if_pos (by rfl)]
            refine wp_storeBlk 232 (.tmp 13) (.tmp 55) rfl gq70 ((Sd.mk N1 M0 h0).cells ++ (Sd.mk N1 M1 h1).cells).toArray (by rfl) (by rfl) _ _ hEq91 (by rw [HZS.out]; exact Tryz.sizeSeed2) (by rw [HZS.out]; rfl) (by rw [List.all_toArray, List.all_append, ← List.all_toArray, ← List.all_toArray, Sd.cells_all, Sd.cells_all]; rfl) ?_
            intro yq94 hEq95 grq96
            refine hK.out _ _ ⟨hSq93.1.grown grq96 (by first | (simp; done) | (simp; omega)), below_new hSq93.2 grq96 lgq73 hSq93.2.size⟩ (fun hSq97 => ?_)
            clear hK K hSq93
            refine wpAnyH_done (by kernel_rfl) ?_ _
            go_wp2_with fail
            go_meet
            exact ⟨gq70, rfl, hEq95, hSq97.2, lgq73⟩
          refine AllReadyH.cons rfl (fun K hK => ?_) ?_
          · rw [if_pos (by rfl)]
            refine wp_bsStr2 80 9 (.const (.string ⟨#[114, 105, 103, 104, 116]⟩)) (.tmp 51) rfl (str lRight) (str T.h) (by rfl) (by rfl) Tryz.underlying80 (str []) (by kernel_rfl) ?_
            intro gq101 yq99 egq102 ezq103 bq98 hEq100
            have lgq104 : W5.heap.size ≤ gq101 := by rw [egq102]; exact hSq11.2.size
            have lbq105 : w.heap.size + 1 < gq101 := by rw [egq102]; exact hSq11.1.lt
            have hEq106 := hEq5.below bq98 hEq5.lt
            refine hK.out _ _ ⟨hSq11.1.below bq98 hSq11.1.lt, hSq11.2.trans (bq98.mono hSq11.2.size)⟩ (fun hSq107 => ?_)
            clear hK K hSq11 bq98 egq102 ezq103
            refine wpAnyH_ready (rs := [10, 26]) (by kernel_rfl) (by simp) ?_
            refine AllReadyH.cons rfl (fun K hK => ?_) ?_
            · go_simp
              go_wp2_with (go_at_call 94; refine (c1 _ _ hEq106).mono ?_; rintro e yq108 ⟨rfl, bq109⟩)
              have hEq110 := hEq106.below bq109 hEq106.lt
              have hEq111 := hEq100.below bq109 hEq100.lt
              refine hK.out _ _ ⟨hSq107.1.below bq109 hSq107.1.lt, hSq107.2.trans (bq109.mono hSq107.2.size)⟩ (fun hSq112 => ?_)
              clear hK K hSq107 bq109
              refine wpAnyH_take (i := 11) rfl (by kernel_rfl) (by kernel_rfl) (by kernel_rfl) (fun _ _ _ h => h) (yieldsIf_build (by rfl) 227 #[(0, .tmp 32), (1, .tmp 35), (2, .tmp 40)] rfl _ (Tryz.builtSeed N1 M0 h0 L0.out)) hSq112 ?_
              simp only [Act.put, List.getElem_toArray, List.getElem_cons_zero, List.getElem_cons_succ, List.setIfInBounds_toArray, List.set_cons_zero, List.set_cons_succ]
              refine wpAnyH_ready (rs := [23, 26]) (by kernel_rfl) (by simp) ?_
              refine AllReadyH.cons rfl (fun K hK => ?_) ?_
              · go_simp
                go_wp2_with (go_at_call 94; refine (c2 _ _ hEq111).mono ?_; rintro e yq113 ⟨rfl, bq114⟩)
                have hEq115 := hEq110.below bq114 hEq110.lt
                have hEq116 := hEq111.below bq114 hEq111.lt
                refine hK.out _ _ ⟨hSq112.1.below bq114 hSq112.1.lt, hSq112.2.trans (bq114.mono hSq112.2.size)⟩ (fun hSq117 => ?_)
                clear hK K hSq112 bq114
                refine wpAnyH_take (i := 24) rfl (by kernel_rfl) (by kernel_rfl) (by kernel_rfl) (fun _ _ _ h => h) (yieldsIf_build (by rfl) 227 #[(0, .tmp 44), (1, .tmp 48), (2, .tmp 53)] rfl _ (Tryz.builtSeed N1 M1 h1 L1.out)) hSq117 ?_
                simp only [Act.put, List.getElem_toArray, List.getElem_cons_zero, List.getElem_cons_succ, List.setIfInBounds_toArray, List.set_cons_zero, List.set_cons_succ]
                refine wpAnyH_take (i := 25) rfl (by kernel_rfl) (by kernel_rfl) (by kernel_rfl) (fun _ _ _ h => h) (yieldsIf_build (by rfl) 232 #[(0, .tmp 41), (1, .tmp 54)] rfl _ (Tryz.builtSeeds ⟨N1, M0, h0⟩ ⟨N1, M1, h1⟩ L0.out L1.out)) hSq117 ?_
                simp only [Act.put, List.getElem_toArray, List.getElem_cons_zero, List.getElem_cons_succ, List.setIfInBounds_toArray, List.set_cons_zero, List.set_cons_succ]
                refine wpAnyH_ready (rs := [26]) (by kernel_rfl) (by simp) ?_
                refine AllReadyH.cons rfl (fun K hK => ?_) AllReadyH.nil
                rw [if_pos (by rfl)]
                refine wp_allocZ 232 rfl z68 Tryz.zeroSeed2 ?_
                intro gq121 yq119 egq122 ezq123 bq118 hEq120
                have lgq124 : W5.heap.size ≤ gq121 := by rw [egq122]; exact hSq117.2.size
                have lbq125 : w.heap.size + 1 < gq121 := by rw [egq122]; exact hSq117.1.lt
                have hEq126 := hEq115.below bq118 hEq115.lt
                have hEq127 := hEq116.below bq118 hEq116.lt
                refine hK.out _ _ ⟨hSq117.1.below bq118 hSq117.1.lt, hSq117.2.trans (bq118.mono hSq117.2.size)⟩ (fun hSq128 => ?_)
                clear hK K hSq117 bq118 egq122 ezq123
                refine wpAnyH_ready (rs := [27]) (by kernel_rfl) (by simp) ?_
                refine AllReadyH.cons rfl (fun K hK => ?_) AllReadyH.nil
                rw [if_pos (by rfl)]
                refine wp_storeBlk 232 (.tmp 13) (.tmp 55) rfl gq121 ((Sd.mk N1 M0 h0).cells ++ (Sd.mk N1 M1 h1).cells).toArray (by rfl) (by rfl) _ _ hEq120 (by rw [HZS.out]; exact Tryz.sizeSeed2) (by rw [HZS.out]; rfl) (by rw [List.all_toArray, List.all_append, ← List.all_toArray, ← List.all_toArray, Sd.cells_all, Sd.cells_all]; rfl) ?_
                intro yq129 hEq130 grq131
                refine hK.out _ _ ⟨hSq128.1.grown grq131 (by first | (simp; done) | (simp; omega)), below_new hSq128.2 grq131 lgq124 hSq128.2.size⟩ (fun hSq132 => ?_)
                clear hK K hSq128
                refine wpAnyH_done (by kernel_rfl) ?_ _
                go_wp2_with fail
                go_meet
                exact ⟨gq121, rfl, hEq130, hSq132.2, lgq124⟩
              refine AllReadyH.cons rfl (fun K hK => ?_) AllReadyH.nil
              rw [if_pos (by rfl)]
              refine wp_allocZ 232 rfl z68 Tryz.zeroSeed2 ?_
              intro gq136 yq134 egq137 ezq138 bq133 hEq135
              have lgq139 : W5.heap.size ≤ gq136 := by rw [egq137]; exact hSq112.2.size
              have lbq140 : w.heap.size + 1 < gq136 := by rw [egq137]; exact hSq112.1.lt
              have hEq141 := hEq110.below bq133 hEq110.lt
              have hEq142 := hEq111.below bq133 hEq111.lt
              refine hK.out _ _ ⟨hSq112.1.below bq133 hSq112.1.lt, hSq112.2.trans (bq133.mono hSq112.2.size)⟩ (fun hSq143 => ?_)
              clear hK K hSq112 bq133 egq137 ezq138
              refine wpAnyH_ready (rs := [23]) (by kernel_rfl) (by simp) ?_
              refine AllReadyH.cons rfl (fun K hK => ?_) AllReadyH.nil
              go_simp
              go_wp2_with (go_at_call 94; refine (c2 _ _ hEq142).mono ?_; rintro e yq144 ⟨rfl, bq145⟩)
              have hEq146 := hEq141.below bq145 hEq141.lt
              have hEq147 := hEq142.below bq145 hEq142.lt
              have hEq148 := hEq135.below bq145 hEq135.lt
              refine hK.out _ _ ⟨hSq143.1.below bq145 hSq143.1.lt, hSq143.2.trans (bq145.mono hSq143.2.size)⟩ (fun hSq149 => ?_)
              clear hK K hSq143 bq145
              refine wpAnyH_take (i := 24) rfl (by kernel_rfl) (by kernel_rfl) (by kernel_rfl) (fun _ _ _ h => h) (yieldsIf_build (by rfl) 227 #[(0, .tmp 44), (1, .tmp 48), (2, .tmp 53)] rfl _ (Tryz.builtSeed N1 M1 h1 L1.out)) hSq149 ?_
              simp only [Act.put, List.getElem_toArray, List.getElem_cons_zero, List.getElem_cons_succ, List.setIfInBounds_toArray, List.set_cons_zero, List.set_cons_succ]
              refine wpAnyH_take (i := 25) rfl (by kernel_rfl) (by kernel_rfl) (by kernel_rfl) (fun _ _ _ h => h) (yieldsIf_build (by rfl) 232 #[(0, .tmp 41), (1, .tmp 54)] rfl _ (Tryz.builtSeeds ⟨N1, M0, h0⟩ ⟨N1, M1, h1⟩ L0.out L1.out)) hSq149 ?_
              simp only [Act.put, List.getElem_toArray, List.getElem_cons_zero, List.getElem_cons_succ, List.setIfInBounds_toArray, List.set_cons_zero, List.set_cons_succ]
              refine wpAnyH_ready (rs := [27]) (by kernel_rfl) (by simp) ?_
              refine AllReadyH.cons rfl (fun K hK => ?_) AllReadyH.nil
              rw [if_pos (by rfl)]
              refine wp_storeBlk 232 (.tmp 13) (.tmp 55) rfl gq136 ((Sd.mk N1 M0 h0).cells ++ (Sd.mk N1 M1 h1).cells).toArray (by rfl) (by rfl) _ _ hEq148 (by rw [HZS.out]; exact Tryz.sizeSeed2) (by rw [HZS.out]; rfl) (by rw [List.all_toArray, List.all_append, ← List.all_toArray, ← List.all_toArray, Sd.cells_all, Sd.cells_all]; rfl) ?_
              intro yq150 hEq151 grq152
              refine hK.out _ _ ⟨hSq149.1.grown grq152 (by first | (simp; done) | (simp; omega)), below_new hSq149.2 grq152 lgq139 hSq149.2.size⟩ (fun hSq153 => ?_)
              clear hK K hSq149
              refine wpAnyH_done (by kernel_rfl) ?_ _
              go_wp2_with fail
              go_meet
              exact ⟨gq136, rfl, hEq151, hSq153.2, lgq139⟩
            refine AllReadyH.cons rfl (fun K hK => ?_) AllReadyH.nil
            rw [if_pos (by rfl)]
            refine wp_allocZ 232 rfl z68 Tryz.zeroSeed2 ?_
            intro gq157 yq155 egq158 ezq159 bq154 hEq156
            have lgq160 : W5.heap.size ≤ gq157 := by rw [egq158]; exact hSq107.2.size
            have lbq161 : w.heap.size + 1 < gq157 := by rw [egq158]; exact hSq107.1.lt
            have hEq162 := hEq106.below bq154 hEq106.lt
            have hEq163 := hEq100.below bq154 hEq100.lt
            refine hK.out _ _ ⟨hSq107.1.below bq154 hSq107.1.lt, hSq107.2.trans (bq154.mono hSq107.2.size)⟩ (fun hSq164 => ?_)
            clear hK K hSq107 bq154 egq158 ezq159
            refine wpAnyH_ready (rs := [10]) (by kernel_rfl) (by simp) ?_
            refine AllReadyH.cons rfl (fun K hK => ?_) AllReadyH.nil
            go_simp
            go_wp2_with (go_at_call 94; refine (c1 _ _ hEq162).mono ?_; rintro e yq165 ⟨rfl, bq166⟩)
            have hEq167 := hEq162.below bq166 hEq162.lt
            have hEq168 := hEq163.below bq166 hEq163.lt
            have hEq169 := hEq156.below bq166 hEq156.lt
            refine hK.out _ _ ⟨hSq164.1.below bq166 hSq164.1.lt, hSq164.2.trans (bq166.mono hSq164.2.size)⟩ (fun hSq170 => ?_)
            clear hK K hSq164 bq166
            refine wpAnyH_take (i := 11) rfl (by kernel_rfl) (by kernel_rfl) (by kernel_rfl) (fun _ _ _ h => h) (yieldsIf_build (by rfl) 227 #[(0, .tmp 32), (1, .tmp 35), (2, .tmp 40)] rfl _ (Tryz.builtSeed N1 M0 h0 L0.out)) hSq170 ?_
            simp only [Act.put, List.getElem_toArray, List.getElem_cons_zero, List.getElem_cons_succ, List.setIfInBounds_toArray, List.set_cons_zero, List.set_cons_succ]
            refine wpAnyH_ready (rs := [23]) (by kernel_rfl) (by simp) ?_
            refine AllReadyH.cons rfl (fun K hK => ?_) AllReadyH.nil
            go_simp
            go_wp2_with (go_at_call 94; refine (c2 _ _ hEq168).mono ?_; rintro e yq171 ⟨rfl, bq172⟩)
            have hEq173 := hEq167.below bq172 hEq167.lt
            have hEq174 := hEq168.below bq172 hEq168.lt
            have hEq175 := hEq169.below bq172 hEq169.lt
            refine hK.out _ _ ⟨hSq170.1.below bq172 hSq170.1.lt, hSq170.2.trans (bq172.mono hSq170.2.size)⟩ (fun hSq176 => ?_)
            clear hK K hSq170 bq172
            refine wpAnyH_take (i := 24) rfl (by kernel_rfl) (by kernel_rfl) (by kernel_rfl) (fun _ _ _ h => h) (yieldsIf_build (by rfl) 227 #[(0, .tmp 44), (1, .tmp 48), (2, .tmp 53)] rfl _ (Tryz.builtSeed N1 M1 h1 L1.out)) hSq176 ?_
            simp only [Act.put, List.getElem_toArray, List.getElem_cons_zero, List.getElem_cons_succ, List.setIfInBounds_toArray, List.set_cons_zero, List.set_cons_succ]
            refine wpAnyH_take (i := 25) rfl (by kernel_rfl) (by kernel_rfl) (by kernel_rfl) (fun _ _ _ h => h) (yieldsIf_build (by rfl) 232 #[(0, .tmp 41), (1, .tmp 54)] rfl _ (Tryz.builtSeeds ⟨N1, M0, h0⟩ ⟨N1, M1, h1⟩ L0.out L1.out)) hSq176 ?_
            simp only [Act.put, List.getElem_toArray, List.getElem_cons_zero, List.getElem_cons_succ, List.setIfInBounds_toArray, List.set_cons_zero, List.set_cons_succ]
            refine wpAnyH_ready (rs := [27]) (by kernel_rfl) (by simp) ?_
            refine AllReadyH.cons rfl (fun K hK => ?_) AllReadyH.nil
            rw [if_pos (by rfl)]
            refine wp_storeBlk 232 (.tmp 13) (.tmp 55) rfl gq157 ((Sd.mk N1 M0 h0).cells ++ (Sd.mk N1 M1 h1).cells).toArray (by rfl) (by rfl) _ _ hEq175 (by rw [HZS.out]; exact Tryz.sizeSeed2) (by rw [HZS.out]; rfl) (by rw [List.all_toArray, List.all_append, ← List.all_toArray, ← List.all_toArray, Sd.cells_all, Sd.cells_all]; rfl) ?_
            intro yq177 hEq178 grq179
            refine hK.out _ _ ⟨hSq176.1.grown grq179 (by first | (simp; done) | (simp; omega)), below_new hSq176.2 grq179 lgq160 hSq176.2.size⟩ (fun hSq180 => ?_)
            clear hK K hSq176
            refine wpAnyH_done (by kernel_rfl) ?_ _
            go_wp2_with fail
            go_meet
            exact ⟨gq157, rfl, hEq178, hSq180.2, lgq160⟩
          refine AllReadyH.cons rfl (fun K hK => ?_) AllReadyH.nil
          rw [if_pos (by rfl)]
          refine wp_allocZ 232 rfl z68 Tryz.zeroSeed2 ?_
          intro gq184 yq182 egq185 ezq186 bq181 hEq183
          have lgq187 : W5.heap.size ≤ gq184 := by rw [egq185]; exact hSq11.2.size
          have lbq188 : w.heap.size + 1 < gq184 := by rw [egq185]; exact hSq11.1.lt
          have hEq189 := hEq5.below bq181 hEq5.lt
          refine hK.out _ _ ⟨hSq11.1.below bq181 hSq11.1.lt, hSq11.2.trans (bq181.mono hSq11.2.size)⟩ (fun hSq190 => ?_)
          clear hK K hSq11 bq181 egq185 ezq186
          refine wpAnyH_ready (rs := [10, 22]) (by kernel_rfl) (by simp) ?_
          refine AllReadyH.cons rfl (fun K hK => ?_) ?_
          · go_simp
            go_wp2_with (go_at_call 94; refine (c1 _ _ hEq189).mono ?_; rintro e yq191 ⟨rfl, bq192⟩)
            have hEq193 := hEq189.below bq192 hEq189.lt
            have hEq194 := hEq183.below bq192 hEq183.lt
            refine hK.out _ _ ⟨hSq190.1.below bq192 hSq190.1.lt, hSq190.2.trans (bq192.mono hSq190.2.size)⟩ (fun hSq195 => ?_)
            clear hK K hSq190 bq192
            refine wpAnyH_take (i := 11) rfl (by kernel_rfl) (by kernel_rfl) (by kernel_rfl) (fun _ _ _ h => h) (yieldsIf_build (by rfl) 227 #[(0, .tmp 32), (1, .tmp 35), (2, .tmp 40)] rfl _ (Tryz.builtSeed N1 M0 h0 L0.out)) hSq195 ?_
            simp only [Act.put, List.getElem_toArray, List.getElem_cons_zero, List.getElem_cons_succ, List.setIfInBounds_toArray, List.set_cons_zero, List.set_cons_succ]
            refine wpAnyH_ready (rs := [22]) (by kernel_rfl) (by simp) ?_
            refine AllReadyH.cons rfl (fun K hK => ?_) AllReadyH.nil
            rw [if_pos (by rfl)]
            refine wp_bsStr2 80 9 (.const (.string ⟨#[114, 105, 103, 104, 116]⟩)) (.tmp 51) rfl (str lRight) (str T.h) (by rfl) (by rfl) Tryz.underlying80 (str []) (by kernel_rfl) ?_
            intro gq199 yq197 egq200 ezq201 bq196 hEq198
            have lgq202 : W5.heap.size ≤ gq199 := by rw [egq200]; exact hSq195.2.size
            have lbq203 : w.heap.size + 1 < gq199 := by rw [egq200]; exact hSq195.1.lt
            have hEq204 := hEq193.below bq196 hEq193.lt
            have hEq205 := hEq194.below bq196 hEq194.lt
            refine hK.out _ _ ⟨hSq195.1.below bq196 hSq195.1.lt, hSq195.2.trans (bq196.mono hSq195.2.size)⟩ (fun hSq206 => ?_)
            clear hK K hSq195 bq196 egq200 ezq201
            refine wpAnyH_ready (rs := [23]) (by kernel_rfl) (by simp) ?_
            refine AllReadyH.cons rfl (fun K hK => ?_) AllReadyH.nil
            go_simp
            go_wp2_with (go_at_call 94; refine (c2 _ _ hEq198).mono ?_; rintro e yq207 ⟨rfl, bq208⟩)
            have hEq209 := hEq204.below bq208 hEq204.lt
            have hEq210 := hEq205.below bq208 hEq205.lt
            have hEq211 := hEq198.below bq208 hEq198.lt
            refine hK.out _ _ ⟨hSq206.1.below bq208 hSq206.1.lt, hSq206.2.trans (bq208.mono hSq206.2.size)⟩ (fun hSq212 => ?_)
            clear hK K hSq206 bq208
            refine wpAnyH_take (i := 24) rfl (by kernel_rfl) (by kernel_rfl) (by kernel_rfl) (fun _ _ _ h => h) (yieldsIf_build (by rfl) 227 #[(0, .tmp 44), (1, .tmp 48), (2, .tmp 53)] rfl _ (Tryz.builtSeed N1 M1 h1 L1.out)) hSq212 ?_
            simp only [Act.put, List.getElem_toArray, List.getElem_cons_zero, List.getElem_cons_succ, List.setIfInBounds_toArray, List.set_cons_zero, List.set_cons_succ]
            refine wpAnyH_take (i := 25) rfl (by kernel_rfl) (by kernel_rfl) (by kernel_rfl) (fun _ _ _ h => h) (yieldsIf_build (by rfl) 232 #[(0, .tmp 41), (1, .tmp 54)] rfl _ (Tryz.builtSeeds ⟨N1, M0, h0⟩ ⟨N1, M1, h1⟩ L0.out L1.out)) hSq212 ?_
            simp only [Act.put, List.getElem_toArray, List.getElem_cons_zero, List.getElem_cons_succ, List.setIfInBounds_toArray, List.set_cons_zero, List.set_cons_succ]
            refine wpAnyH_ready (rs := [27]) (by kernel_rfl) (by simp) ?_
            refine AllReadyH.cons rfl (fun K hK => ?_) AllReadyH.nil
            rw [if_pos (by rfl)]
            refine wp_storeBlk 232 (.tmp 13) (.tmp 55) rfl gq184 ((Sd.mk N1 M0 h0).cells ++ (Sd.mk N1 M1 h1).cells).toArray (by rfl) (by rfl) _ _ hEq210 (by rw [HZS.out]; exact Tryz.sizeSeed2) (by rw [HZS.out]; rfl) (by rw [List.all_toArray, List.all_append, ← List.all_toArray, ← List.all_toArray, Sd.cells_all, Sd.cells_all]; rfl) ?_
            intro yq213 hEq214 grq215
            refine hK.out _ _ ⟨hSq212.1.grown grq215 (by first | (simp; done) | (simp; omega)), below_new hSq212.2 grq215 lgq187 hSq212.2.size⟩ (fun hSq216 => ?_)
            clear hK K hSq212
            refine wpAnyH_done (by kernel_rfl) ?_ _
            go_wp2_with fail
            go_meet
            exact ⟨gq184, rfl, hEq214, hSq216.2, lgq187⟩
          refine AllReadyH.cons rfl (fun K hK => ?_) AllReadyH.nil
          rw [if_pos (by rfl)]
          refine wp_bsStr2 80 9 (.const (.string ⟨#[114, 105, 103, 104, 116]⟩)) (.tmp 51) rfl (str lRight) (str T.h) (by rfl) (by rfl) Tryz.underlying80 (str []) (by kernel_rfl) ?_
          intro gq220 yq218 egq221 ezq222 bq217 hEq219
          have lgq223 : W5.heap.size ≤ gq220 := by rw [egq221]; exact hSq190.2.size
          have lbq224 : w.heap.size + 1 < gq220 := by rw [egq221]; exact hSq190.1.lt
          have hEq225 := hEq189.below bq217 hEq189.lt
          have hEq226 := hEq183.below bq217 hEq183.lt
          refine hK.out _ _ ⟨hSq190.1.below bq217 hSq190.1.lt, hSq190.2.trans (bq217.mono hSq190.2.size)⟩ (fun hSq227 => ?_)
          clear hK K hSq190 bq217 egq221 ezq222
          refine wpAnyH_ready (rs := [10]) (by kernel_rfl) (by simp) ?_
          refine AllReadyH.cons rfl (fun K hK => ?_) AllReadyH.nil
          go_simp
          go_wp2_with (go_at_call 94; refine (c1 _ _ hEq225).mono ?_; rintro e yq228 ⟨rfl, bq229⟩)
          have hEq230 := hEq225.below bq229 hEq225.lt
          have hEq231 := hEq226.below bq229 hEq226.lt
          have hEq232 := hEq219.below bq229 hEq219.lt
          refine hK.out _ _ ⟨hSq227.1.below bq229 hSq227.1.lt, hSq227.2.trans (bq229.mono hSq227.2.size)⟩ (fun hSq233 => ?_)
          clear hK K hSq227 bq229
          refine wpAnyH_take (i := 11) rfl (by kernel_rfl) (by kernel_rfl) (by kernel_rfl) (fun _ _ _ h => h) (yieldsIf_build (by rfl) 227 #[(0, .tmp 32), (1, .tmp 35), (2, .tmp 40)] rfl _ (Tryz.builtSeed N1 M0 h0 L0.out)) hSq233 ?_
          simp only [Act.put, List.getElem_toArray, List.getElem_cons_zero, List.getElem_cons_succ, List.setIfInBounds_toArray, List.set_cons_zero, List.set_cons_succ]
          refine wpAnyH_ready (rs := [23]) (by kernel_rfl) (by simp) ?_
          refine AllReadyH.cons rfl (fun K hK => ?_) AllReadyH.nil
          go_simp
          go_wp2_with (go_at_call 94; refine (c2 _ _ hEq232).mono ?_; rintro e yq234 ⟨rfl, bq235⟩)
          have hEq236 := hEq230.below bq235 hEq230.lt
          have hEq237 := hEq231.below bq235 hEq231.lt
          have hEq238 := hEq232.below bq235 hEq232.lt
          refine hK.out _ _ ⟨hSq233.1.below bq235 hSq233.1.lt, hSq233.2.trans (bq235.mono hSq233.2.size)⟩ (fun hSq239 => ?_)
          clear hK K hSq233 bq235
          refine wpAnyH_take (i := 24) rfl (by kernel_rfl) (by kernel_rfl) (by kernel_rfl) (fun _ _ _ h => h) (yieldsIf_build (by rfl) 227 #[(0, .tmp 44), (1, .tmp 48), (2, .tmp 53)] rfl _ (Tryz.builtSeed N1 M1 h1 L1.out)) hSq239 ?_
          simp only [Act.put, List.getElem_toArray, List.getElem_cons_zero, List.getElem_cons_succ, List.setIfInBounds_toArray, List.set_cons_zero, List.set_cons_succ]
          refine wpAnyH_take (i := 25) rfl (by kernel_rfl) (by kernel_rfl) (by kernel_rfl) (fun _ _ _ h => h) (yieldsIf_build (by rfl) 232 #[(0, .tmp 41), (1, .tmp 54)] rfl _ (Tryz.builtSeeds ⟨N1, M0, h0⟩ ⟨N1, M1, h1⟩ L0.out L1.out)) hSq239 ?_
          simp only [Act.put, List.getElem_toArray, List.getElem_cons_zero, List.getElem_cons_succ, List.setIfInBounds_toArray, List.set_cons_zero, List.set_cons_succ]
          refine wpAnyH_ready (rs := [27]) (by kernel_rfl) (by simp) ?_
          refine AllReadyH.cons rfl (fun K hK => ?_) AllReadyH.nil
          rw [if_pos (by rfl)]
          refine wp_storeBlk 232 (.tmp 13) (.tmp 55) rfl gq184 ((Sd.mk N1 M0 h0).cells ++ (Sd.mk N1 M1 h1).cells).toArray (by rfl) (by rfl) _ _ hEq237 (by rw [HZS.out]; exact Tryz.sizeSeed2) (by rw [HZS.out]; rfl) (by rw [List.all_toArray, List.all_append, ← List.all_toArray, ← List.all_toArray, Sd.cells_all, Sd.cells_all]; rfl) ?_
          intro yq240 hEq241 grq242
          refine hK.out _ _ ⟨hSq239.1.grown grq242 (by first | (simp; done) | (simp; omega)), below_new hSq239.2 grq242 lgq187 hSq239.2.size⟩ (fun hSq243 => ?_)
          clear hK K hSq239
          refine wpAnyH_done (by kernel_rfl) ?_ _
          go_wp2_with fail
          go_meet
          exact ⟨gq184, rfl, hEq241, hSq243.2, lgq187⟩
        refine AllReadyH.cons rfl (fun K hK => ?_) ?_
        · rw [if_pos (by rfl)]
          refine wp_bsStr2 80 9 (.const (.string ⟨#[114, 105, 103, 104, 116]⟩)) (.tmp 51) rfl (str lRight) (str T.h) (by rfl) (by rfl) Tryz.underlying80 (str []) (by kernel_rfl) ?_
          intro gq247 yq245 egq248 ezq249 bq244 hEq246
          have lgq250 : W5.heap.size ≤ gq247 := by rw [egq248]; exact hSq2.2.size
          have lbq251 : w.heap.size + 1 < gq247 := by rw [egq248]; exact hSq2.1.lt
          refine hK.out _ _ ⟨hSq2.1.below bq244 hSq2.1.lt, hSq2.2.trans (bq244.mono hSq2.2.size)⟩ (fun hSq252 => ?_)
          clear hK K hSq2 bq244 egq248 ezq249
          refine wpAnyH_ready (rs := [9, 26]) (by kernel_rfl) (by simp) ?_
          refine AllReadyH.cons rfl (fun K hK => ?_) ?_
          · rw [if_pos (by rfl)]
            refine wp_bsStr2 80 9 (.const (.string ⟨#[108, 101, 102, 116]⟩)) (.tmp 38) rfl (str lLeft) (str T.h) (by rfl) (by rfl) Tryz.underlying80 (str []) (by kernel_rfl) ?_
            intro gq256 yq254 egq257 ezq258 bq253 hEq255
            have lgq259 : W5.heap.size ≤ gq256 := by rw [egq257]; exact hSq252.2.size
            have lbq260 : w.heap.size + 1 < gq256 := by rw [egq257]; exact hSq252.1.lt
            have hEq261 := hEq246.below bq253 hEq246.lt
            refine hK.out _ _ ⟨hSq252.1.below bq253 hSq252.1.lt, hSq252.2.trans (bq253.mono hSq252.2.size)⟩ (fun hSq262 => ?_)
            clear hK K hSq252 bq253 egq257 ezq258
            refine wpAnyH_ready (rs := [10, 26]) (by kernel_rfl) (by simp) ?_
            refine AllReadyH.cons rfl (fun K hK => ?_) ?_
            · go_simp
              go_wp2_with (go_at_call 94; refine (c1 _ _ hEq255).mono ?_; rintro e yq263 ⟨rfl, bq264⟩)
              have hEq265 := hEq261.below bq264 hEq261.lt
              have hEq266 := hEq255.below bq264 hEq255.lt
              refine hK.out _ _ ⟨hSq262.1.below bq264 hSq262.1.lt, hSq262.2.trans (bq264.mono hSq262.2.size)⟩ (fun hSq267 => ?_)
              clear hK K hSq262 bq264
              refine wpAnyH_take (i := 11) rfl (by kernel_rfl) (by kernel_rfl) (by kernel_rfl) (fun _ _ _ h => h) (yieldsIf_build (by rfl) 227 #[(0, .tmp 32), (1, .tmp 35), (2, .tmp 40)] rfl _ (Tryz.builtSeed N1 M0 h0 L0.out)) hSq267 ?_
              simp only [Act.put, List.getElem_toArray, List.getElem_cons_zero, List.getElem_cons_succ, List.setIfInBounds_toArray, List.set_cons_zero, List.set_cons_succ]
              refine wpAnyH_ready (rs := [23, 26]) (by kernel_rfl) (by simp) ?_
              refine AllReadyH.cons rfl (fun K hK => ?_) ?_
              · go_simp
                go_wp2_with (go_at_call 94; refine (c2 _ _ hEq265).mono ?_; rintro e yq268 ⟨rfl, bq269⟩)
                have hEq270 := hEq265.below bq269 hEq265.lt
                have hEq271 := hEq266.below bq269 hEq266.lt
                refine hK.out _ _ ⟨hSq267.1.below bq269 hSq267.1.lt, hSq267.2.trans (bq269.mono hSq267.2.size)⟩ (fun hSq272 => ?_)
                clear hK K hSq267 bq269
                refine wpAnyH_take (i := 24) rfl (by kernel_rfl) (by kernel_rfl) (by kernel_rfl) (fun _ _ _ h => h) (yieldsIf_build (by rfl) 227 #[(0, .tmp 44), (1, .tmp 48), (2, .tmp 53)] rfl _ (Tryz.builtSeed N1 M1 h1 L1.out)) hSq272 ?_
                simp only [Act.put, List.getElem_toArray, List.getElem_cons_zero, List.getElem_cons_succ, List.setIfInBounds_toArray, List.set_cons_zero, List.set_cons_succ]
                refine wpAnyH_take (i := 25) rfl (by kernel_rfl) (by kernel_rfl) (by kernel_rfl) (fun _ _ _ h => h) (yieldsIf_build (by rfl) 232 #[(0, .tmp 41), (1, .tmp 54)] rfl _ (Tryz.builtSeeds ⟨N1, M0, h0⟩ ⟨N1, M1, h1⟩ L0.out L1.out)) hSq272 ?_
                simp only [Act.put, List.getElem_toArray, List.getElem_cons_zero, List.getElem_cons_succ, List.setIfInBounds_toArray, List.set_cons_zero, List.set_cons_succ]
                refine wpAnyH_ready (rs := [26]) (by kernel_rfl) (by simp) ?_
                refine AllReadyH.cons rfl (fun K hK => ?_) AllReadyH.nil
                rw [if_pos (by rfl)]
                refine wp_allocZ 232 rfl z68 Tryz.zeroSeed2 ?_
                intro gq276 yq274 egq277 ezq278 bq273 hEq275
                have lgq279 : W5.heap.size ≤ gq276 := by rw [egq277]; exact hSq272.2.size
                have lbq280 : w.heap.size + 1 < gq276 := by rw [egq277]; exact hSq272.1.lt
                have hEq281 := hEq270.below bq273 hEq270.lt
                have hEq282 := hEq271.below bq273 hEq271.lt
                refine hK.out _ _ ⟨hSq272.1.below bq273 hSq272.1.lt, hSq272.2.trans (bq273.mono hSq272.2.size)⟩ (fun hSq283 => ?_)
                clear hK K hSq272 bq273 egq277 ezq278
                refine wpAnyH_ready (rs := [27]) (by kernel_rfl) (by simp) ?_
                refine AllReadyH.cons rfl (fun K hK => ?_) AllReadyH.nil
                rw [if_pos (by rfl)]
                refine wp_storeBlk 232 (.tmp 13) (.tmp 55) rfl gq276 ((Sd.mk N1 M0 h0).cells ++ (Sd.mk N1 M1 h1).cells).toArray (by rfl) (by rfl) _ _ hEq275 (by rw [HZS.out]; exact Tryz.sizeSeed2) (by rw [HZS.out]; rfl) (by rw [List.all_toArray, List.all_append, ← List.all_toArray, ← List.all_toArray, Sd.cells_all, Sd.cells_all]; rfl) ?_
                intro yq284 hEq285 grq286
                refine hK.out _ _ ⟨hSq283.1.grown grq286 (by first | (simp; done) | (simp; omega)), below_new hSq283.2 grq286 lgq279 hSq283.2.size⟩ (fun hSq287 => ?_)
                clear hK K hSq283
                refine wpAnyH_done (by kernel_rfl) ?_ _
                go_wp2_with fail
                go_meet
                exact ⟨gq276, rfl, hEq285, hSq287.2, lgq279⟩
              refine AllReadyH.cons rfl (fun K hK => ?_) AllReadyH.nil
              rw [if_pos (by rfl)]
              refine wp_allocZ 232 rfl z68 Tryz.zeroSeed2 ?_
              intro gq291 yq289 egq292 ezq293 bq288 hEq290
              have lgq294 : W5.heap.size ≤ gq291 := by rw [egq292]; exact hSq267.2.size
              have lbq295 : w.heap.size + 1 < gq291 := by rw [egq292]; exact hSq267.1.lt
              have hEq296 := hEq265.below bq288 hEq265.lt
              have hEq297 := hEq266.below bq288 hEq266.lt
              refine hK.out _ _ ⟨hSq267.1.below bq288 hSq267.1.lt, hSq267.2.trans (bq288.mono hSq267.2.size)⟩ (fun hSq298 => ?_)
              clear hK K hSq267 bq288 egq292 ezq293
              refine wpAnyH_ready (rs := [23]) (by kernel_rfl) (by simp) ?_
              refine AllReadyH.cons rfl (fun K hK => ?_) AllReadyH.nil
              go_simp
              go_wp2_with (go_at_call 94; refine (c2 _ _ hEq296).mono ?_; rintro e yq299 ⟨rfl, bq300⟩)
              have hEq301 := hEq296.below bq300 hEq296.lt
              have hEq302 := hEq297.below bq300 hEq297.lt
              have hEq303 := hEq290.below bq300 hEq290.lt
              refine hK.out _ _ ⟨hSq298.1.below bq300 hSq298.1.lt, hSq298.2.trans (bq300.mono hSq298.2.size)⟩ (fun hSq304 => ?_)
              clear hK K hSq298 bq300
              refine wpAnyH_take (i := 24) rfl (by kernel_rfl) (by kernel_rfl) (by kernel_rfl) (fun _ _ _ h => h) (yieldsIf_build (by rfl) 227 #[(0, .tmp 44), (1, .tmp 48), (2, .tmp 53)] rfl _ (Tryz.builtSeed N1 M1 h1 L1.out)) hSq304 ?_
              simp only [Act.put, List.getElem_toArray, List.getElem_cons_zero, List.getElem_cons_succ, List.setIfInBounds_toArray, List.set_cons_zero, List.set_cons_succ]
              refine wpAnyH_take (i := 25) rfl (by kernel_rfl) (by kernel_rfl) (by kernel_rfl) (fun _ _ _ h => h) (yieldsIf_build (by rfl) 232 #[(0, .tmp 41), (1, .tmp 54)] rfl _ (Tryz.builtSeeds ⟨N1, M0, h0⟩ ⟨N1, M1, h1⟩ L0.out L1.out)) hSq304 ?_
              simp only [Act.put, List.getElem_toArray, List.getElem_cons_zero, List.getElem_cons_succ, List.setIfInBounds_toArray, List.set_cons_zero, List.set_cons_succ]
              refine wpAnyH_ready (rs := [27]) (by kernel_rfl) (by simp) ?_
              refine AllReadyH.cons rfl (fun K hK => ?_) AllReadyH.nil
              rw [if_pos (by rfl)]
              refine wp_storeBlk 232 (.tmp 13) (.tmp 55) rfl gq291 ((Sd.mk N1 M0 h0).cells ++ (Sd.mk N1 M1 h1).cells).toArray (by rfl) (by rfl) _ _ hEq303 (by rw [HZS.out]; exact Tryz.sizeSeed2) (by rw [HZS.out]; rfl) (by rw [List.all_toArray, List.all_append, ← List.all_toArray, ← List.all_toArray, Sd.cells_all, Sd.cells_all]; rfl) ?_
              intro yq305 hEq306 grq307
              refine hK.out _ _ ⟨hSq304.1.grown grq307 (by first | (simp; done) | (simp; omega)), below_new hSq304.2 grq307 lgq294 hSq304.2.size⟩ (fun hSq308 => ?_)
              clear hK K hSq304
              refine wpAnyH_done (by kernel_rfl) ?_ _
              go_wp2_with fail
              go_meet
              exact ⟨gq291, rfl, hEq306, hSq308.2, lgq294⟩
            refine AllReadyH.cons rfl (fun K hK => ?_) AllReadyH.nil
            rw [if_pos (by rfl)]
            refine wp_allocZ 232 rfl z68 Tryz.zeroSeed2 ?_
            intro gq312 yq310 egq313 ezq314 bq309 hEq311
            have lgq315 : W5.heap.size ≤ gq312 := by rw [egq313]; exact hSq262.2.size
            have lbq316 : w.heap.size + 1 < gq312 := by rw [egq313]; exact hSq262.1.lt
            have hEq317 := hEq261.below bq309 hEq261.lt
            have hEq318 := hEq255.below bq309 hEq255.lt
            refine hK.out _ _ ⟨hSq262.1.below bq309 hSq262.1.lt, hSq262.2.trans (bq309.mono hSq262.2.size)⟩ (fun hSq319 => ?_)
            clear hK K hSq262 bq309 egq313 ezq314
            refine wpAnyH_ready (rs := [10]) (by kernel_rfl) (by simp) ?_
            refine AllReadyH.cons rfl (fun K hK => ?_) AllReadyH.nil
            go_simp
            go_wp2_with (go_at_call 94; refine (c1 _ _ hEq318).mono ?_; rintro e yq320 ⟨rfl, bq321⟩)
            have hEq322 := hEq317.below bq321 hEq317.lt
            have hEq323 := hEq318.below bq321 hEq318.lt
            have hEq324 := hEq311.below bq321 hEq311.lt
            refine hK.out _ _ ⟨hSq319.1.below bq321 hSq319.1.lt, hSq319.2.trans (bq321.mono hSq319.2.size)⟩ (fun hSq325 => ?_)
            clear hK K hSq319 bq321
            refine wpAnyH_take (i := 11) rfl (by kernel_rfl) (by kernel_rfl) (by kernel_rfl) (fun _ _ _ h => h) (yieldsIf_build (by rfl) 227 #[(0, .tmp 32), (1, .tmp 35), (2, .tmp 40)] rfl _ (Tryz.builtSeed N1 M0 h0 L0.out)) hSq325 ?_
            simp only [Act.put, List.getElem_toArray, List.getElem_cons_zero, List.getElem_cons_succ, List.setIfInBounds_toArray, List.set_cons_zero, List.set_cons_succ]
            refine wpAnyH_ready (rs := [23]) (by kernel_rfl) (by simp) ?_
            refine AllReadyH.cons rfl (fun K hK => ?_) AllReadyH.nil
            go_simp
            go_wp2_with (go_at_call 94; refine (c2 _ _ hEq322).mono ?_; rintro e yq326 ⟨rfl, bq327⟩)
            have hEq328 := hEq322.below bq327 hEq322.lt
            have hEq329 := hEq323.below bq327 hEq323.lt
            have hEq330 := hEq324.below bq327 hEq324.lt
            refine hK.out _ _ ⟨hSq325.1.below bq327 hSq325.1.lt, hSq325.2.trans (bq327.mono hSq325.2.size)⟩ (fun hSq331 => ?_)
            clear hK K hSq325 bq327
            refine wpAnyH_take (i := 24) rfl (by kernel_rfl) (by kernel_rfl) (by kernel_rfl) (fun _ _ _ h => h) (yieldsIf_build (by rfl) 227 #[(0, .tmp 44), (1, .tmp 48), (2, .tmp 53)] rfl _ (Tryz.builtSeed N1 M1 h1 L1.out)) hSq331 ?_
            simp only [Act.put, List.getElem_toArray, List.getElem_cons_zero, List.getElem_cons_succ, List.setIfInBounds_toArray, List.set_cons_zero, List.set_cons_succ]
            refine wpAnyH_take (i := 25) rfl (by kernel_rfl) (by kernel_rfl) (by kernel_rfl) (fun _ _ _ h => h) (yieldsIf_build (by rfl) 232 #[(0, .tmp 41), (1, .tmp 54)] rfl _ (Tryz.builtSeeds ⟨N1, M0, h0⟩ ⟨N1, M1, h1⟩ L0.out L1.out)) hSq331 ?_
            simp only [Act.put, List.getElem_toArray, List.getElem_cons_zero, List.getElem_cons_succ, List.setIfInBounds_toArray, List.set_cons_zero, List.set_cons_succ]
            refine wpAnyH_ready (rs := [27]) (by kernel_rfl) (by simp) ?_
            refine AllReadyH.cons rfl (fun K hK => ?_) AllReadyH.nil
            rw [if_pos (by rfl)]
            refine wp_storeBlk 232 (.tmp 13) (.tmp 55) rfl gq312 ((Sd.mk N1 M0 h0).cells ++ (Sd.mk N1 M1 h1).cells).toArray (by rfl) (by rfl) _ _ hEq330 (by rw [HZS.out]; exact Tryz.sizeSeed2) (by rw [HZS.out]; rfl) (by rw [List.all_toArray, List.all_append, ← List.all_toArray, ← List.all_toArray, Sd.cells_all, Sd.cells_all]; rfl) ?_
            intro yq332 hEq333 grq334
            refine hK.out _ _ ⟨hSq331.1.grown grq334 (by first | (simp; done) | (simp; omega)), below_new hSq331.2 grq334 lgq315 hSq331.2.size⟩ (fun hSq335 => ?_)
            clear hK K hSq331
            refine wpAnyH_done (by kernel_rfl) ?_ _
            go_wp2_with fail
            go_meet
            exact ⟨gq312, rfl, hEq333, hSq335.2, lgq315⟩
          refine AllReadyH.cons rfl (fun K hK => ?_) AllReadyH.nil
          rw [if_pos (by rfl)]
          refine wp_allocZ 232 rfl z68 Tryz.zeroSeed2 ?_
          intro gq339 yq337 egq340 ezq341 bq336 hEq338
          have lgq342 : W5.heap.size ≤ gq339 := by rw [egq340]; exact hSq252.2.size
          have lbq343 : w.heap.size + 1 < gq339 := by rw [egq340]; exact hSq252.1.lt
          have hEq344 := hEq246.below bq336 hEq246.lt
          refine hK.out _ _ ⟨hSq252.1.below bq336 hSq252.1.lt, hSq252.2.trans (bq336.mono hSq252.2.size)⟩ (fun hSq345 => ?_)
          clear hK K hSq252 bq336 egq340 ezq341
          refine wpAnyH_ready (rs := [9]) (by kernel_rfl) (by simp) ?_
          refine AllReadyH.cons rfl (fun K hK => ?_) AllReadyH.nil
          rw [if_pos (by rfl)]
          refine wp_bsStr2 80 9 (.const (.string ⟨#[108, 101, 102, 116]⟩)) (.tmp 38) rfl (str lLeft) (str T.h) (by rfl) (by rfl) Tryz.underlying80 (str []) (by kernel_rfl) ?_
          intro gq349 yq347 egq350 ezq351 bq346 hEq348
          have lgq352 : W5.heap.size ≤ gq349 := by rw [egq350]; exact hSq345.2.size
          have lbq353 : w.heap.size + 1 < gq349 := by rw [egq350]; exact hSq345.1.lt
          have hEq354 := hEq344.below bq346 hEq344.lt
          have hEq355 := hEq338.below bq346 hEq338.lt
          refine hK.out _ _ ⟨hSq345.1.below bq346 hSq345.1.lt, hSq345.2.trans (bq346.mono hSq345.2.size)⟩ (fun hSq356 => ?_)
          clear hK K hSq345 bq346 egq350 ezq351
          refine wpAnyH_ready (rs := [10]) (by kernel_rfl) (by simp) ?_
          refine AllReadyH.cons rfl (fun K hK => ?_) AllReadyH.nil
          go_simp
          go_wp2_with (go_at_call 94; refine (c1 _ _ hEq348).mono ?_; rintro e yq357 ⟨rfl, bq358⟩)
          have hEq359 := hEq354.below bq358 hEq354.lt
          have hEq360 := hEq355.below bq358 hEq355.lt
          have hEq361 := hEq348.below bq358 hEq348.lt
          refine hK.out _ _ ⟨hSq356.1.below bq358 hSq356.1.lt, hSq356.2.trans (bq358.mono hSq356.2.size)⟩ (fun hSq362 => ?_)
          clear hK K hSq356 bq358
          refine wpAnyH_take (i := 11) rfl (by kernel_rfl) (by kernel_rfl) (by kernel_rfl) (fun _ _ _ h => h) (yieldsIf_build (by rfl) 227 #[(0, .tmp 32), (1, .tmp 35), (2, .tmp 40)] rfl _ (Tryz.builtSeed N1 M0 h0 L0.out)) hSq362 ?_
          simp only [Act.put, List.getElem_toArray, List.getElem_cons_zero, List.getElem_cons_succ, List.setIfInBounds_toArray, List.set_cons_zero, List.set_cons_succ]
          refine wpAnyH_ready (rs := [23]) (by kernel_rfl) (by simp) ?_
          refine AllReadyH.cons rfl (fun K hK => ?_) AllReadyH.nil
          go_simp
          go_wp2_with (go_at_call 94; refine (c2 _ _ hEq359).mono ?_; rintro e yq363 ⟨rfl, bq364⟩)
          have hEq365 := hEq359.below bq364 hEq359.lt
          have hEq366 := hEq360.below bq364 hEq360.lt
          have hEq367 := hEq361.below bq364 hEq361.lt
          refine hK.out _ _ ⟨hSq362.1.below bq364 hSq362.1.lt, hSq362.2.trans (bq364.mono hSq362.2.size)⟩ (fun hSq368 => ?_)
          clear hK K hSq362 bq364
          refine wpAnyH_take (i := 24) rfl (by kernel_rfl) (by kernel_rfl) (by kernel_rfl) (fun _ _ _ h => h) (yieldsIf_build (by rfl) 227 #[(0, .tmp 44), (1, .tmp 48), (2, .tmp 53)] rfl _ (Tryz.builtSeed N1 M1 h1 L1.out)) hSq368 ?_
          simp only [Act.put, List.getElem_toArray, List.getElem_cons_zero, List.getElem_cons_succ, List.setIfInBounds_toArray, List.set_cons_zero, List.set_cons_succ]
          refine wpAnyH_take (i := 25) rfl (by kernel_rfl) (by kernel_rfl) (by kernel_rfl) (fun _ _ _ h => h) (yieldsIf_build (by rfl) 232 #[(0, .tmp 41), (1, .tmp 54)] rfl _ (Tryz.builtSeeds ⟨N1, M0, h0⟩ ⟨N1, M1, h1⟩ L0.out L1.out)) hSq368 ?_
          simp only [Act.put, List.getElem_toArray, List.getElem_cons_zero, List.getElem_cons_succ, List.setIfInBounds_toArray, List.set_cons_zero, List.set_cons_succ]
          refine wpAnyH_ready (rs := [27]) (by kernel_rfl) (by simp) ?_
          refine AllReadyH.cons rfl (fun K hK => ?_) AllReadyH.nil
          rw [if_pos (by rfl)]
          refine wp_storeBlk 232 (.tmp 13) (.tmp 55) rfl gq339 ((Sd.mk N1 M0 h0).cells ++ (Sd.mk N1 M1 h1).cells).toArray (by rfl) (by rfl) _ _ hEq366 (by rw [HZS.out]; exact Tryz.sizeSeed2) (by rw [HZS.out]; rfl) (by rw [List.all_toArray, List.all_append, ← List.all_toArray, ← List.all_toArray, Sd.cells_all, Sd.cells_all]; rfl) ?_
          intro yq369 hEq370 grq371
          refine hK.out _ _ ⟨hSq368.1.grown grq371 (by first | (simp; done) | (simp; omega)), below_new hSq368.2 grq371 lgq342 hSq368.2.size⟩ (fun hSq372 => ?_)
          clear hK K hSq368
          refine wpAnyH_done (by kernel_rfl) ?_ _
          go_wp2_with fail
          go_meet
          exact ⟨gq339, rfl, hEq370, hSq372.2, lgq342⟩
        refine AllReadyH.cons rfl (fun K hK => ?_) AllReadyH.nil
        rw [if_pos (by rfl)]
        refine wp_allocZ 232 rfl z68 Tryz.zeroSeed2 ?_
        intro gq376 yq374 egq377 ezq378 bq373 hEq375
        have lgq379 : W5.heap.size ≤ gq376 := by rw [egq377]; exact hSq2.2.size
        have lbq380 : w.heap.size + 1 < gq376 := by rw [egq377]; exact hSq2.1.lt
        refine hK.out _ _ ⟨hSq2.1.below bq373 hSq2.1.lt, hSq2.2.trans (bq373.mono hSq2.2.size)⟩ (fun hSq381 => ?_)
        clear hK K hSq2 bq373 egq377 ezq378
        refine wpAnyH_ready (rs := [9, 22]) (by kernel_rfl) (by simp) ?_
        refine AllReadyH.cons rfl (fun K hK => ?_) ?_
        · rw [if_pos (by rfl)]
          refine wp_bsStr2 80 9 (.const (.string ⟨#[108, 101, 102, 116]⟩)) (.tmp 38) rfl (str lLeft) (str T.h) (by rfl) (by rfl) Tryz.underlying80 (str []) (by kernel_rfl) ?_
          intro gq385 yq383 egq386 ezq387 bq382 hEq384
          have lgq388 : W5.heap.size ≤ gq385 := by rw [egq386]; exact hSq381.2.size
          have lbq389 : w.heap.size + 1 < gq385 := by rw [egq386]; exact hSq381.1.lt
          have hEq390 := hEq375.below bq382 hEq375.lt
          refine hK.out _ _ ⟨hSq381.1.below bq382 hSq381.1.lt, hSq381.2.trans (bq382.mono hSq381.2.size)⟩ (fun hSq391 => ?_)
          clear hK K hSq381 bq382 egq386 ezq387
          refine wpAnyH_ready (rs := [10, 22]) (by kernel_rfl) (by simp) ?_
          refine AllReadyH.cons rfl (fun K hK => ?_) ?_
          · go_simp
            go_wp2_with (go_at_call 94; refine (c1 _ _ hEq384).mono ?_; rintro e yq392 ⟨rfl, bq393⟩)
            have hEq394 := hEq390.below bq393 hEq390.lt
            have hEq395 := hEq384.below bq393 hEq384.lt
            refine hK.out _ _ ⟨hSq391.1.below bq393 hSq391.1.lt, hSq391.2.trans (bq393.mono hSq391.2.size)⟩ (fun hSq396 => ?_)
            clear hK K hSq391 bq393
            refine wpAnyH_take (i := 11) rfl (by kernel_rfl) (by kernel_rfl) (by kernel_rfl) (fun _ _ _ h => h) (yieldsIf_build (by rfl) 227 #[(0, .tmp 32), (1, .tmp 35), (2, .tmp 40)] rfl _ (Tryz.builtSeed N1 M0 h0 L0.out)) hSq396 ?_
            simp only [Act.put, List.getElem_toArray, List.getElem_cons_zero, List.getElem_cons_succ, List.setIfInBounds_toArray, List.set_cons_zero, List.set_cons_succ]
            refine wpAnyH_ready (rs := [22]) (by kernel_rfl) (by simp) ?_
            refine AllReadyH.cons rfl (fun K hK => ?_) AllReadyH.nil
            rw [if_pos (by rfl)]
            refine wp_bsStr2 80 9 (.const (.string ⟨#[114, 105, 103, 104, 116]⟩)) (.tmp 51) rfl (str lRight) (str T.h) (by rfl) (by rfl) Tryz.underlying80 (str []) (by kernel_rfl) ?_
            intro gq400 yq398 egq401 ezq402 bq397 hEq399
            have lgq403 : W5.heap.size ≤ gq400 := by rw [egq401]; exact hSq396.2.size
            have lbq404 : w.heap.size + 1 < gq400 := by rw [egq401]; exact hSq396.1.lt
            have hEq405 := hEq394.below bq397 hEq394.lt
            have hEq406 := hEq395.below bq397 hEq395.lt
            refine hK.out _ _ ⟨hSq396.1.below bq397 hSq396.1.lt, hSq396.2.trans (bq397.mono hSq396.2.size)⟩ (fun hSq407 => ?_)
            clear hK K hSq396 bq397 egq401 ezq402
            refine wpAnyH_ready (rs := [23]) (by kernel_rfl) (by simp) ?_
            refine AllReadyH.cons rfl (fun K hK => ?_) AllReadyH.nil
            go_simp
            go_wp2_with (go_at_call 94; refine (c2 _ _ hEq399).mono ?_; rintro e yq408 ⟨rfl, bq409⟩)
            have hEq410 := hEq405.below bq409 hEq405.lt
            have hEq411 := hEq406.below bq409 hEq406.lt
            have hEq412 := hEq399.below bq409 hEq399.lt
            refine hK.out _ _ ⟨hSq407.1.below bq409 hSq407.1.lt, hSq407.2.trans (bq409.mono hSq407.2.size)⟩ (fun hSq413 => ?_)
            clear hK K hSq407 bq409
            refine wpAnyH_take (i := 24) rfl (by kernel_rfl) (by kernel_rfl) (by kernel_rfl) (fun _ _ _ h => h) (yieldsIf_build (by rfl) 227 #[(0, .tmp 44), (1, .tmp 48), (2, .tmp 53)] rfl _ (Tryz.builtSeed N1 M1 h1 L1.out)) hSq413 ?_
            simp only [Act.put, List.getElem_toArray, List.getElem_cons_zero, List.getElem_cons_succ, List.setIfInBounds_toArray, List.set_cons_zero, List.set_cons_succ]
            refine wpAnyH_take (i := 25) rfl (by kernel_rfl) (by kernel_rfl) (by kernel_rfl) (fun _ _ _ h => h) (yieldsIf_build (by rfl) 232 #[(0, .tmp 41), (1, .tmp 54)] rfl _ (Tryz.builtSeeds ⟨N1, M0, h0⟩ ⟨N1, M1, h1⟩ L0.out L1.out)) hSq413 ?_
            simp only [Act.put, List.getElem_toArray, List.getElem_cons_zero, List.getElem_cons_succ, List.setIfInBounds_toArray, List.set_cons_zero, List.set_cons_succ]
            refine wpAnyH_ready (rs := [27]) (by kernel_rfl) (by simp) ?_
            refine AllReadyH.cons rfl (fun K hK => ?_) AllReadyH.nil
            rw [if_pos (by rfl)]
            refine wp_storeBlk 232 (.tmp 13) (.tmp 55) rfl gq376 ((Sd.mk N1 M0 h0).cells ++ (Sd.mk N1 M1 h1).cells).toArray (by rfl) (by rfl) _ _ hEq410 (by rw [HZS.out]; exact Tryz.sizeSeed2) (by rw [HZS.out]; rfl) (by rw [List.all_toArray, List.all_append, ← List.all_toArray, ← List.all_toArray, Sd.cells_all, Sd.cells_all]; rfl) ?_
            intro yq414 hEq415 grq416
            refine hK.out _ _ ⟨hSq413.1.grown grq416 (by first | (simp; done) | (simp; omega)), below_new hSq413.2 grq416 lgq379 hSq413.2.size⟩ (fun hSq417 => ?_)
            clear hK K hSq413
            refine wpAnyH_done (by kernel_rfl) ?_ _
            go_wp2_with fail
            go_meet
            exact ⟨gq376, rfl, hEq415, hSq417.2, lgq379⟩
          refine AllReadyH.cons rfl (fun K hK => ?_) AllReadyH.nil
          rw [if_pos (by rfl)]
          refine wp_bsStr2 80 9 (.const (.string ⟨#[114, 105, 103, 104, 116]⟩)) (.tmp 51) rfl (str lRight) (str T.h) (by rfl) (by rfl) Tryz.underlying80 (str []) (by kernel_rfl) ?_
          intro gq421 yq419 egq422 ezq423 bq418 hEq420
          have lgq424 : W5.heap.size ≤ gq421 := by rw [egq422]; exact hSq391.2.size
          have lbq425 : w.heap.size + 1 < gq421 := by rw [egq422]; exact hSq391.1.lt
          have hEq426 := hEq390.below bq418 hEq390.lt
          have hEq427 := hEq384.below bq418 hEq384.lt
          refine hK.out _ _ ⟨hSq391.1.below bq418 hSq391.1.lt, hSq391.2.trans (bq418.mono hSq391.2.size)⟩ (fun hSq428 => ?_)
          clear hK K hSq391 bq418 egq422 ezq423
          refine wpAnyH_ready (rs := [10]) (by kernel_rfl) (by simp) ?_
          refine AllReadyH.cons rfl (fun K hK => ?_) AllReadyH.nil
          go_simp
          go_wp2_with (go_at_call 94; refine (c1 _ _ hEq427).mono ?_; rintro e yq429 ⟨rfl, bq430⟩)
          have hEq431 := hEq426.below bq430 hEq426.lt
          have hEq432 := hEq427.below bq430 hEq427.lt
          have hEq433 := hEq420.below bq430 hEq420.lt
          refine hK.out _ _ ⟨hSq428.1.below bq430 hSq428.1.lt, hSq428.2.trans (bq430.mono hSq428.2.size)⟩ (fun hSq434 => ?_)
          clear hK K hSq428 bq430
          refine wpAnyH_take (i := 11) rfl (by kernel_rfl) (by kernel_rfl) (by kernel_rfl) (fun _ _ _ h => h) (yieldsIf_build (by rfl) 227 #[(0, .tmp 32), (1, .tmp 35), (2, .tmp 40)] rfl _ (Tryz.builtSeed N1 M0 h0 L0.out)) hSq434 ?_
          simp only [Act.put, List.getElem_toArray, List.getElem_cons_zero, List.getElem_cons_succ, List.setIfInBounds_toArray, List.set_cons_zero, List.set_cons_succ]
          refine wpAnyH_ready (rs := [23]) (by kernel_rfl) (by simp) ?_
          refine AllReadyH.cons rfl (fun K hK => ?_) AllReadyH.nil
          go_simp
          go_wp2_with (go_at_call 94; refine (c2 _ _ hEq433).mono ?_; rintro e yq435 ⟨rfl, bq436⟩)
          have hEq437 := hEq431.below bq436 hEq431.lt
          have hEq438 := hEq432.below bq436 hEq432.lt
          have hEq439 := hEq433.below bq436 hEq433.lt
          refine hK.out _ _ ⟨hSq434.1.below bq436 hSq434.1.lt, hSq434.2.trans (bq436.mono hSq434.2.size)⟩ (fun hSq440 => ?_)
          clear hK K hSq434 bq436
          refine wpAnyH_take (i := 24) rfl (by kernel_rfl) (by kernel_rfl) (by kernel_rfl) (fun _ _ _ h => h) (yieldsIf_build (by rfl) 227 #[(0, .tmp 44), (1, .tmp 48), (2, .tmp 53)] rfl _ (Tryz.builtSeed N1 M1 h1 L1.out)) hSq440 ?_
          simp only [Act.put, List.getElem_toArray, List.getElem_cons_zero, List.getElem_cons_succ, List.setIfInBounds_toArray, List.set_cons_zero, List.set_cons_succ]
          refine wpAnyH_take (i := 25) rfl (by kernel_rfl) (by kernel_rfl) (by kernel_rfl) (fun _ _ _ h => h) (yieldsIf_build (by rfl) 232 #[(0, .tmp 41), (1, .tmp 54)] rfl _ (Tryz.builtSeeds ⟨N1, M0, h0⟩ ⟨N1, M1, h1⟩ L0.out L1.out)) hSq440 ?_
          simp only [Act.put, List.getElem_toArray, List.getElem_cons_zero, List.getElem_cons_succ, List.setIfInBounds_toArray, List.set_cons_zero, List.set_cons_succ]
          refine wpAnyH_ready (rs := [27]) (by kernel_rfl) (by simp) ?_
          refine AllReadyH.cons rfl (fun K hK => ?_) AllReadyH.nil
          rw [if_pos (by rfl)]
          refine wp_storeBlk 232 (.tmp 13) (.tmp 55) rfl gq376 ((Sd.mk N1 M0 h0).cells ++ (Sd.mk N1 M1 h1).cells).toArray (by rfl) (by rfl) _ _ hEq437 (by rw [HZS.out]; exact Tryz.sizeSeed2) (by rw [HZS.out]; rfl) (by rw [List.all_toArray, List.all_append, ← List.all_toArray, ← List.all_toArray, Sd.cells_all, Sd.cells_all]; rfl) ?_
          intro yq441 hEq442 grq443
          refine hK.out _ _ ⟨hSq440.1.grown grq443 (by first | (simp; done) | (simp; omega)), below_new hSq440.2 grq443 lgq379 hSq440.2.size⟩ (fun hSq444 => ?_)
          clear hK K hSq440
          refine wpAnyH_done (by kernel_rfl) ?_ _
          go_wp2_with fail
          go_meet
          exact ⟨gq376, rfl, hEq442, hSq444.2, lgq379⟩
        refine AllReadyH.cons rfl (fun K hK => ?_) AllReadyH.nil
        rw [if_pos (by rfl)]
        refine wp_bsStr2 80 9 (.const (.string ⟨#[114, 105, 103, 104, 116]⟩)) (.tmp 51) rfl (str lRight) (str T.h) (by rfl) (by rfl) Tryz.underlying80 (str []) (by kernel_rfl) ?_
        intro gq448 yq446 egq449 ezq450 bq445 hEq447
        have lgq451 : W5.heap.size ≤ gq448 := by rw [egq449]; exact hSq381.2.size
        have lbq452 : w.heap.size + 1 < gq448 := by rw [egq449]; exact hSq381.1.lt
        have hEq453 := hEq375.below bq445 hEq375.lt
        refine hK.out _ _ ⟨hSq381.1.below bq445 hSq381.1.lt, hSq381.2.trans (bq445.mono hSq381.2.size)⟩ (fun hSq454 => ?_)
        clear hK K hSq381 bq445 egq449 ezq450
        refine wpAnyH_ready (rs := [9]) (by kernel_rfl) (by simp) ?_
        refine AllReadyH.cons rfl (fun K hK => ?_) AllReadyH.nil
        rw [if_pos (by rfl)]
        refine wp_bsStr2 80 9 (.const (.string ⟨#[108, 101, 102, 116]⟩)) (.tmp 38) rfl (str lLeft) (str T.h) (by rfl) (by rfl) Tryz.underlying80 (str []) (by kernel_rfl) ?_
        intro gq458 yq456 egq459 ezq460 bq455 hEq457
        have lgq461 : W5.heap.size ≤ gq458 := by rw [egq459]; exact hSq454.2.size
        have lbq462 : w.heap.size + 1 < gq458 := by rw [egq459]; exact hSq454.1.lt
        have hEq463 := hEq453.below bq455 hEq453.lt
        have hEq464 := hEq447.below bq455 hEq447.lt
        refine hK.out _ _ ⟨hSq454.1.below bq455 hSq454.1.lt, hSq454.2.trans (bq455.mono hSq454.2.size)⟩ (fun hSq465 => ?_)
        clear hK K hSq454 bq455 egq459 ezq460
        refine wpAnyH_ready (rs := [10]) (by kernel_rfl) (by simp) ?_
        refine AllReadyH.cons rfl (fun K hK => ?_) AllReadyH.nil
        go_simp
        go_wp2_with (go_at_call 94; refine (c1 _ _ hEq457).mono ?_; rintro e yq466 ⟨rfl, bq467⟩)
        have hEq468 := hEq463.below bq467 hEq463.lt
        have hEq469 := hEq464.below bq467 hEq464.lt
        have hEq470 := hEq457.below bq467 hEq457.lt
        refine hK.out _ _ ⟨hSq465.1.below bq467 hSq465.1.lt, hSq465.2.trans (bq467.mono hSq465.2.size)⟩ (fun hSq471 => ?_)
        clear hK K hSq465 bq467
        refine wpAnyH_take (i := 11) rfl (by kernel_rfl) (by kernel_rfl) (by kernel_rfl) (fun _ _ _ h => h) (yieldsIf_build (by rfl) 227 #[(0, .tmp 32), (1, .tmp 35), (2, .tmp 40)] rfl _ (Tryz.builtSeed N1 M0 h0 L0.out)) hSq471 ?_
        simp only [Act.put, List.getElem_toArray, List.getElem_cons_zero, List.getElem_cons_succ, List.setIfInBounds_toArray, List.set_cons_zero, List.set_cons_succ]
        refine wpAnyH_ready (rs := [23]) (by kernel_rfl) (by simp) ?_
        refine AllReadyH.cons rfl (fun K hK => ?_) AllReadyH.nil
        go_simp
        go_wp2_with (go_at_call 94; refine (c2 _ _ hEq469).mono ?_; rintro e yq472 ⟨rfl, bq473⟩)
        have hEq474 := hEq468.below bq473 hEq468.lt
        have hEq475 := hEq469.below bq473 hEq469.lt
        have hEq476 := hEq470.below bq473 hEq470.lt
        refine hK.out _ _ ⟨hSq471.1.below bq473 hSq471.1.lt, hSq471.2.trans (bq473.mono hSq471.2.size)⟩ (fun hSq477 => ?_)
        clear hK K hSq471 bq473
        refine wpAnyH_take (i := 24) rfl (by kernel_rfl) (by kernel_rfl) (by kernel_rfl) (fun _ _ _ h => h) (yieldsIf_build (by rfl) 227 #[(0, .tmp 44), (1, .tmp 48), (2, .tmp 53)] rfl _ (Tryz.builtSeed N1 M1 h1 L1.out)) hSq477 ?_
        simp only [Act.put, List.getElem_toArray, List.getElem_cons_zero, List.getElem_cons_succ, List.setIfInBounds_toArray, List.set_cons_zero, List.set_cons_succ]
        refine wpAnyH_take (i := 25) rfl (by kernel_rfl) (by kernel_rfl) (by kernel_rfl) (fun _ _ _ h => h) (yieldsIf_build (by rfl) 232 #[(0, .tmp 41), (1, .tmp 54)] rfl _ (Tryz.builtSeeds ⟨N1, M0, h0⟩ ⟨N1, M1, h1⟩ L0.out L1.out)) hSq477 ?_
        simp only [Act.put, List.getElem_toArray, List.getElem_cons_zero, List.getElem_cons_succ, List.setIfInBounds_toArray, List.set_cons_zero, List.set_cons_succ]
        refine wpAnyH_ready (rs := [27]) (by kernel_rfl) (by simp) ?_
        refine AllReadyH.cons rfl (fun K hK => ?_) AllReadyH.nil
        rw [if_pos (by rfl)]
        refine wp_storeBlk 232 (.tmp 13) (.tmp 55) rfl gq376 ((Sd.mk N1 M0 h0).cells ++ (Sd.mk N1 M1 h1).cells).toArray (by rfl) (by rfl) _ _ hEq474 (by rw [HZS.out]; exact Tryz.sizeSeed2) (by rw [HZS.out]; rfl) (by rw [List.all_toArray, List.all_append, ← List.all_toArray, ← List.all_toArray, Sd.cells_all, Sd.cells_all]; rfl) ?_
        intro yq478 hEq479 grq480
        refine hK.out _ _ ⟨hSq477.1.grown grq480 (by first | (simp; done) | (simp; omega)), below_new hSq477.2 grq480 lgq379 hSq477.2.size⟩ (fun hSq481 => ?_)
        clear hK K hSq477
        refine wpAnyH_done (by kernel_rfl) ?_ _
        go_wp2_with fail
        go_meet
        exact ⟨gq376, rfl, hEq479, hSq481.2, lgq379⟩
      case rest =>
        obtain ⟨g, rfl, hG, hbc, hgl⟩ := hcut
        have bwc := hb5.trans (hbc.out.mono hb5.size)
        have hSc := hS5.below hbc.out hS5.lt
        have hrowc := hrow5.below hbc.out hrow5.lt
        have hws5 := hb5.size
        have hwsc := hbc.out.size
        have hSlt := hSc.lt
        clear hS5 hrow5
        go_wp2_with (first | ((with_reducible show wpList _ _ _ (⟨some 58, _, _, _, _, _⟩ :: _) _ _); refine wpList_load_mid rfl 23 (.tmp 57) rfl (w.heap.size + 1) 2 (by rfl) (T.h.map bv) _ (sd_range hSc) Tryz.underlying23 rfl (by rw [List.length_map, H32.out]; exact Tryz.sizeHash) ?_) | ((with_reducible show wpList _ _ _ (⟨some 59, _, _, _, _, _⟩ :: _) _ _); refine wpList_bsOne rfl 112 23 (.tmp 58) rfl (T.h.map bv).toArray (by rfl) Tryz.underlying112 _ 32 Tryz.zsHash (by rw [bv_size]; exact H32.out) (by omega) (by omega) ?_) | ((with_reducible show wpList _ _ _ (⟨some 62, _, _, _, _, _⟩ :: _) _ _); refine wpList_load_mid rfl 23 (.tmp 61) rfl g 2 (by rfl) (h0.map bv) _ (range_hash (two_range0 (hG.out.alloc _) L0.out)) Tryz.underlying23 rfl (by rw [List.length_map, L0.out]; exact Tryz.sizeHash) ?_) | ((with_reducible show wpList _ _ _ (⟨some 65, _, _, _, _, _⟩ :: _) _ _); refine wpList_load_mid rfl 23 (.tmp 64) rfl g 36 (by rfl) (h1.map bv) _ (range_hash (two_range1 (hG.out.alloc _) L0.out)) Tryz.underlying23 rfl (by rw [List.length_map, L1.out]; exact Tryz.sizeHash) ?_) | ((with_reducible show wpList _ _ _ (⟨some 66, _, _, _, _, _⟩ :: _) _ _); refine wpList_bs64 rfl 112 23 (.tmp 62) (.tmp 65) rfl h0 h1 L0.out L1.out (by rfl) (by rfl) Tryz.underlying112 Tryz.zsHash ?_))
        refine (NoteNil_calls _ _ 2 2 (by omega) rfl _).mono ?_
        rintro e w7 ⟨rfl, b7⟩
        have bq : Below wc.heap.size wc w7 := ((below_alloc1 wc _).trans ((below_alloc1 _ _).mono (by simp))).trans (b7.mono (by simp; omega))
        have b8 := bwc.trans (bq.mono (Nat.le_trans hws5 hwsc))
        have hG7 := Lib.hid (hG.out.below bq hG.out.lt)
        have hS7 := hSc.below bq hSc.lt
        have hrow7 := hrowc.below bq hrowc.lt
        have hL7 := Lib.hid (own_below hL.out b8)
        have hR7 := Lib.hid (own_below hR.out b8)
        have hZ7 := Lib.hid (hZ.out.below b8 hZ.out.lt)
        have hbw7 := Lib.hid (hbw.out.trans (b8.mono hbw.out.size))
        have hws7 : wr.heap.size ≤ w7.heap.size := b8.size
        have hgl7 : wr.heap.size ≤ g := by omega
        have hbw8 := Below.refl w7.heap.size w7
        clear hSc hrowc b7 bq b8 bwc hL hR hZ hbw hG hbc hb5
        obtain ⟨A1, hA1⟩ : ∃ A, A = B - T.lv := ⟨_, rfl⟩
        obtain ⟨A2, hA2⟩ : ∃ A, A = B - T.lv - 1 := ⟨_, rfl⟩
        obtain ⟨q, hq⟩ : ∃ q, q = p / 2 ^ A2 := ⟨_, rfl⟩
        obtain ⟨y, hy⟩ : ∃ y, y = q % 2 := ⟨_, rfl⟩
        have hA2' : A2 ≤ 64 := by omega
        have hsh := shrP p A2 hA2'
        rw [← hq] at hsh
        have hqi : (p : Int) / 2 ^ A2 = (q : Int) := by rw [hq]; simp
        have hq32 : q < 4294967296 := by rw [hq]; exact Nat.lt_of_le_of_lt (Nat.div_le_self _ _) hp
        have hand := andOne q hq32
        rw [← hy] at hand
        have HA1 := Lib.hid hA1
        have HA2 := Lib.hid hA2
        have HQ := Lib.hid hq
        have HY := Lib.hid hy
        clear hA1 hA2 hq hy
        go_wp2_with fail
        refine wp_region_held_drew (S := fun x => Blk x (w.heap.size + 1) T.cells.toArray 227 ∧ Blk x (r) #[.int .i64 B, .slice (some ⟨g0, 0, none⟩) l.length c] 158 ∧ Below w7.heap.size w7 x) (by kernel_rfl) ⟨hS7.drew, hrow7.drew, below_drewN hbw8 1⟩ (fun hSq482 => ?_)
        refine wpAnyH_take (i := 0) (v := .int .i64 p) rfl (by kernel_rfl) (by kernel_rfl) (by kernel_rfl) (fun _ _ _ h => h) (Or.inl ⟨by rfl, fun x hx => by go_simp⟩) hSq482 ?_
        simp only [Act.put, List.getElem_toArray, List.getElem_cons_zero, List.getElem_cons_succ, List.setIfInBounds_toArray, List.set_cons_zero, List.set_cons_succ]
        refine wpAnyH_take (i := 1) (v := .pointer (some ⟨r, 0, none⟩)) rfl (by kernel_rfl) (by kernel_rfl) (by kernel_rfl) (fun _ _ _ h => h) (Or.inl ⟨by rfl, fun x hx => by go_simp⟩) hSq482 ?_
        simp only [Act.put, List.getElem_toArray, List.getElem_cons_zero, List.getElem_cons_succ, List.setIfInBounds_toArray, List.set_cons_zero, List.set_cons_succ]
        refine wpAnyH_take (i := 2) (v := .pointer (some ⟨r, 0, none⟩)) rfl (by kernel_rfl) (by kernel_rfl) (by kernel_rfl) (fun _ _ _ h => h) (Or.inl ⟨by rfl, fun x hx => by go_simp⟩) hSq482 ?_
        simp only [Act.put, List.getElem_toArray, List.getElem_cons_zero, List.getElem_cons_succ, List.setIfInBounds_toArray, List.set_cons_zero, List.set_cons_succ]
        refine wpAnyH_take (i := 3) (v := .pointer (some ⟨r, 0, none⟩)) rfl (by kernel_rfl) (by kernel_rfl) (by kernel_rfl) (fun _ _ _ h => h) (Or.inl ⟨by rfl, fun x hx => by go_simp⟩) hSq482 ?_
        simp only [Act.put, List.getElem_toArray, List.getElem_cons_zero, List.getElem_cons_succ, List.setIfInBounds_toArray, List.set_cons_zero, List.set_cons_succ]
        refine wpAnyH_take (i := 4) (v := .int .i64 B) rfl (by kernel_rfl) (by kernel_rfl) (by kernel_rfl) (fun _ _ _ h => h) (Or.inl ⟨by rfl, fun x hx => by have hc := hx.2.1.cell 0 (.int .i64 B) rfl; go_simp⟩) hSq482 ?_
        simp only [Act.put, List.getElem_toArray, List.getElem_cons_zero, List.getElem_cons_succ, List.setIfInBounds_toArray, List.set_cons_zero, List.set_cons_succ]
        refine wpAnyH_take (i := 5) (v := .pointer (some ⟨w.heap.size + 1, 0, none⟩)) rfl (by kernel_rfl) (by kernel_rfl) (by kernel_rfl) (fun _ _ _ h => h) (Or.inl ⟨by rfl, fun x hx => by go_simp⟩) hSq482 ?_
        simp only [Act.put, List.getElem_toArray, List.getElem_cons_zero, List.getElem_cons_succ, List.setIfInBounds_toArray, List.set_cons_zero, List.set_cons_succ]
        refine wpAnyH_take (i := 6) (v := .int .i64 T.lv) rfl (by kernel_rfl) (by kernel_rfl) (by kernel_rfl) (fun _ _ _ h => h) (Or.inl ⟨by rfl, fun x hx => by have hc := hx.1.cell 0 (.int .i64 T.lv) rfl; go_simp⟩) hSq482 ?_
        simp only [Act.put, List.getElem_toArray, List.getElem_cons_zero, List.getElem_cons_succ, List.setIfInBounds_toArray, List.set_cons_zero, List.set_cons_succ]
        refine wpAnyH_take (i := 7) (v := .int .i64 (A1 : Nat)) rfl (by kernel_rfl) (by kernel_rfl) (by kernel_rfl) (fun _ _ _ h => h) (Or.inl ⟨by rfl, fun x hx => by have e1 := HA1.out; have e2 := HA2.out; go_simp; rw [wrapI _ (by omega) (by omega)]; try omega⟩) hSq482 ?_
        simp only [Act.put, List.getElem_toArray, List.getElem_cons_zero, List.getElem_cons_succ, List.setIfInBounds_toArray, List.set_cons_zero, List.set_cons_succ]
        refine wpAnyH_take (i := 8) (v := .int .i64 (A2 : Nat)) rfl (by kernel_rfl) (by kernel_rfl) (by kernel_rfl) (fun _ _ _ h => h) (Or.inl ⟨by rfl, fun x hx => by have e1 := HA1.out; have e2 := HA2.out; go_simp; rw [wrapI _ (by omega) (by omega)]; try omega⟩) hSq482 ?_
        simp only [Act.put, List.getElem_toArray, List.getElem_cons_zero, List.getElem_cons_succ, List.setIfInBounds_toArray, List.set_cons_zero, List.set_cons_succ]
        refine wpAnyH_take (i := 9) (v := .int .i64 (q : Nat)) rfl (by kernel_rfl) (by kernel_rfl) (by kernel_rfl) (fun _ _ _ h => h) (Or.inl ⟨by rfl, fun x hx => by go_simp⟩) hSq482 ?_
        simp only [Act.put, List.getElem_toArray, List.getElem_cons_zero, List.getElem_cons_succ, List.setIfInBounds_toArray, List.set_cons_zero, List.set_cons_succ]
        refine wpAnyH_take (i := 10) (v := .int .i64 (y : Nat)) rfl (by kernel_rfl) (by kernel_rfl) (by kernel_rfl) (fun _ _ _ h => h) (Or.inl ⟨by rfl, fun x hx => by go_simp⟩) hSq482 ?_
        simp only [Act.put, List.getElem_toArray, List.getElem_cons_zero, List.getElem_cons_succ, List.setIfInBounds_toArray, List.set_cons_zero, List.set_cons_succ]
        refine wpAnyH_ready (rs := [11]) (by kernel_rfl) (by simp) ?_
        refine AllReadyH.cons rfl (fun K hK => ?_) AllReadyH.nil
        go_simp
        refine hK.out _ _ hSq482 (fun hSq483 => ?_)
        clear hK K hSq482
        refine wpAnyH_done (by kernel_rfl) ?_ _
        have hS9 := hSq483.1
        have hb9 := hSq483.2.2
        clear hSq483 hS7 hrow7 hsh hand hbw8
        have hL9 := own_below hL7.out hb9
        have hR9 := own_below hR7.out hb9
        have hG9 := hG7.out.below hb9 hG7.out.lt
        have hZ9 := Lib.hid (hZ7.out.below hb9 hZ7.out.lt)
        have hbw9 := Lib.hid (hbw7.out.trans (hb9.mono hbw7.out.size))
        have hws9 := hb9.size
        clear hL7 hR7 hG7 hZ7 hbw7 hb9
        generalize (World.drew w7) = W9 at hS9 hL9 hR9 hG9 hZ9 hbw9 hws9 ⊢
        have HS9 := Lib.hid hS9
        have HL9 := Lib.hid hL9
        have HR9 := Lib.hid hR9
        have HG9 := Lib.hid hG9
        clear hS9 hL9 hR9 hG9
        by_cases hy0 : y = 0
        · subst hy0
          have hway : Hid (stK B p s (n + 1) = ((Sd.mk N1 M0 h0), (stK B p s n).2.1, (stK B p s n).2.2 ++ [(Sd.mk N1 M1 h1)])) := by
            have hw : wayT B p T.lv = 0 := by rw [wayT, ← HA2.out, ← HQ.out, ← HY.out]
            have e0 : (Sd.mk N1 M0 h0) = T.child false := by rw [HN1.out, HM0.out, H0.out, HDD.out]; rfl
            have e1 : (Sd.mk N1 M1 h1) = T.child true := by rw [HN1.out, HM1.out, H1.out, HDD.out]; rfl
            show _ = _
            rw [e0, e1, HTT.out] at *
            simp only [stK]
            rw [if_pos hw]
          have hlen := stK_len B p s n
          have hDk : u11.ownBlock = none ∨ u11.ownBlock ≠ u12.ownBlock := by
            cases hk : u11.ownBlock with
            | none => exact .inl rfl
            | some q => exact .inr (fun e => hD.out q hk e.symm)
          go_wp2_with (first | ((with_reducible show wpList _ _ _ (⟨some 84, _, _, _, _, _⟩ :: _) _ _); refine wpList_load_mid rfl 227 (.tmp 83) rfl g 34 (by rfl) (Sd.mk N1 M1 h1).cells _ (two_range1 HG9.out L0.out) Tryz.underlying227 rfl (by rw [Sd.cells_len (Sd.mk N1 M1 h1) L1.out]; exact Tryz.sizeSeed) ?_) | ((with_reducible show wpList _ _ _ (⟨some 85, _, _, _, _, _⟩ :: _) _ _); refine wpList_bsOne rfl 154 227 (.tmp 84) rfl (Sd.mk N1 M1 h1).cells.toArray (by rfl) Tryz.underlying154 _ 34 Tryz.zsSeed (by rw [List.size_toArray]; exact Sd.cells_len (Sd.mk N1 M1 h1) L1.out) (by omega) (by omega) ?_) | ((with_reducible show wpList _ _ _ (⟨some 86, _, _, _, _, _⟩ :: _) _ _); refine wpList_append_own2 rfl _ _ 154 rfl (w.heap.size + 2) 227 i0 (.agg z34.toArray) 34 48 Tryz.underlying154 HII.out.1 HII.out.2.1 HII.out.2.2.1 HII.out.2.2.2 rfl (by decide) _ _ _ rfl (HR9.out.alloc _) ⟨W9.heap.size, 0, none⟩ 1 1 (Sd.mk N1 M1 h1).cells rfl (Sd.cells_len (Sd.mk N1 M1 h1) L1.out) (fun j u hj => by rw [Addr.add_lit, Nat.zero_add]; exact (Blk.new _ _ _).cell j u (by rw [List.getElem?_toArray]; exact hj)) (Sd.cells_one _) (by unfold maxLen; omega) (by omega) (by simp; omega) ?_))
          intro v10 w10 hR10 g10 hq10
          have hS10 := (HS9.out.alloc (.cells (Sd.mk N1 M1 h1).cells.toArray 227)).grown g10 (fun e => by have := (HR9.out.lt _ e.symm).1; omega)
          have hG10 := (HG9.out.alloc (.cells (Sd.mk N1 M1 h1).cells.toArray 227)).grown g10 (fun e => own_ne HR9.out HG9.out (by decide) e.symm)
          have hL10 := (HL9.out.alloc (.cells (Sd.mk N1 M1 h1).cells.toArray 227)).kept g10 hDk
          have hZ10 := (hZ9.out.alloc (.cells (Sd.mk N1 M1 h1).cells.toArray 227)).grown g10 (fun e => by have := (HR9.out.lt _ e.symm).1; omega)
          have hb10 := (hbw9.out.alloc hbw9.out.size (.cells (Sd.mk N1 M1 h1).cells.toArray 227)).grown g10 (by simp; omega) (fun q e => by have := (HR9.out.lt _ e).1; omega)
          have hsz10 := g10.size
          have hD10 : Hid (∀ q, u11.ownBlock = some q → v10.ownBlock ≠ some q) := by
            intro q h1 h2
            rcases hq10 q h2 with h3 | h3
            · exact hD.out q h1 h3
            · have := (HL9.out.lt q h1).2
              first | omega | (simp at h3; omega)
          have HS10 := Lib.hid hS10
          have HG10 := Lib.hid hG10
          have HL10 := Lib.hid hL10
          have HR10 := Lib.hid hR10
          have HZ10 := Lib.hid hZ10
          have HB10 := Lib.hid hb10
          clear hS10 hG10 hL10 hR10 hZ10 hb10 g10 hq10 HS9 HG9 HL9 HR9 hZ9 hbw9 hDk
          go_wp2_with (first | ((with_reducible show wpList _ _ _ (⟨some 94, _, _, _, _, _⟩ :: _) _ _); refine wpList_load_mid rfl 227 (.tmp 93) rfl g 0 (by rfl) (Sd.mk N1 M0 h0).cells _ (two_range0 HG10.out L0.out) Tryz.underlying227 rfl (by rw [Sd.cells_len (Sd.mk N1 M0 h0) L0.out]; exact Tryz.sizeSeed) ?_) | ((with_reducible show wpList _ _ _ (⟨none, Op.store _ (.tmp 10) _, _, _, _, _⟩ :: _) _ _); refine wpList_storeBlk rfl 227 (.tmp 10) (.tmp 94) rfl (w.heap.size + 1) (Sd.mk N1 M0 h0).cells.toArray (by rfl) (by rfl) _ _ HS10.out (by rw [List.size_toArray, Sd.cells_len (Sd.mk N1 M0 h0) L0.out]; exact Tryz.sizeSeed) (by rw [List.size_toArray, List.size_toArray, Sd.cells_len (Sd.mk N1 M0 h0) L0.out, Sd.cells_len T H32.out]) (Sd.cells_all (Sd.mk N1 M0 h0)) ?_; intro w11 hS11 g11; have HS11 := Lib.hid hS11; have HL11 := Lib.hid (own_grown HL10.out g11 (fun g e => by cases e; omega)); have HR11 := Lib.hid (own_grown HR10.out g11 (fun g e => by cases e; omega)); have HZ11 := Lib.hid (HZ10.out.grown g11 (by simp)); have HB11 := Lib.hid (HB10.out.trans (grown_below g11 (by omega) HB10.out.size)); have hsz11 := g11.size; clear hS11 g11 HS10 HG10 HL10 HR10 HZ10 HB10))
          go_roundg (gk - 1)
          case measure => have := HLV.out; omega
          case rel =>
            have e := hway.out
            refine ⟨n + 1, _, _, by have := HLV.out; omega, rfl, rfl, ?_, ?_, ?_, hD10, HZ11.out, HB11.out, by first | omega | (simp at hsz10; omega)⟩
            · rw [e]; exact HS11.out
            · rw [e]; exact HL11.out
            · rw [e]; simp only [List.length_append, List.length_singleton, List.flatMap_append, List.flatMap_cons, List.flatMap_nil, List.append_nil]; exact HR11.out
        · obtain rfl : y = 1 := by have := HY.out; omega
          have hway : Hid (stK B p s (n + 1) = ((Sd.mk N1 M1 h1), (stK B p s n).2.1 ++ [(Sd.mk N1 M0 h0)], (stK B p s n).2.2)) := by
            have hw : wayT B p T.lv = 1 := by rw [wayT, ← HA2.out, ← HQ.out, ← HY.out]
            have e0 : (Sd.mk N1 M0 h0) = T.child false := by rw [HN1.out, HM0.out, H0.out, HDD.out]; rfl
            have e1 : (Sd.mk N1 M1 h1) = T.child true := by rw [HN1.out, HM1.out, H1.out, HDD.out]; rfl
            show _ = _
            rw [e0, e1, HTT.out] at *
            simp only [stK]
            rw [if_neg (by rw [hw]; decide)]
          have hlen := stK_len B p s n
          have hDk : u12.ownBlock = none ∨ u12.ownBlock ≠ u11.ownBlock := by
            cases hk : u12.ownBlock with
            | none => exact .inl rfl
            | some q => exact .inr (fun e => hD.out q e.symm hk)
          go_wp2_with (first | ((with_reducible show wpList _ _ _ (⟨some 89, _, _, _, _, _⟩ :: _) _ _); refine wpList_load_mid rfl 227 (.tmp 88) rfl g 0 (by rfl) (Sd.mk N1 M0 h0).cells _ (two_range0 HG9.out L0.out) Tryz.underlying227 rfl (by rw [Sd.cells_len (Sd.mk N1 M0 h0) L0.out]; exact Tryz.sizeSeed) ?_) | ((with_reducible show wpList _ _ _ (⟨some 90, _, _, _, _, _⟩ :: _) _ _); refine wpList_bsOne rfl 154 227 (.tmp 89) rfl (Sd.mk N1 M0 h0).cells.toArray (by rfl) Tryz.underlying154 _ 34 Tryz.zsSeed (by rw [List.size_toArray]; exact Sd.cells_len (Sd.mk N1 M0 h0) L0.out) (by omega) (by omega) ?_) | ((with_reducible show wpList _ _ _ (⟨some 91, _, _, _, _, _⟩ :: _) _ _); refine wpList_append_own2 rfl _ _ 154 rfl (w.heap.size + 2) 227 i0 (.agg z34.toArray) 34 48 Tryz.underlying154 HII.out.1 HII.out.2.1 HII.out.2.2.1 HII.out.2.2.2 rfl (by decide) _ _ _ rfl (HL9.out.alloc _) ⟨W9.heap.size, 0, none⟩ 1 1 (Sd.mk N1 M0 h0).cells rfl (Sd.cells_len (Sd.mk N1 M0 h0) L0.out) (fun j u hj => by rw [Addr.add_lit, Nat.zero_add]; exact (Blk.new _ _ _).cell j u (by rw [List.getElem?_toArray]; exact hj)) (Sd.cells_one _) (by unfold maxLen; omega) (by omega) (by simp; omega) ?_))
          intro v10 w10 hL10 g10 hq10
          have hS10 := (HS9.out.alloc (.cells (Sd.mk N1 M0 h0).cells.toArray 227)).grown g10 (fun e => by have := (HL9.out.lt _ e.symm).1; omega)
          have hG10 := (HG9.out.alloc (.cells (Sd.mk N1 M0 h0).cells.toArray 227)).grown g10 (fun e => own_ne HL9.out HG9.out (by decide) e.symm)
          have hR10 := (HR9.out.alloc (.cells (Sd.mk N1 M0 h0).cells.toArray 227)).kept g10 hDk
          have hZ10 := (hZ9.out.alloc (.cells (Sd.mk N1 M0 h0).cells.toArray 227)).grown g10 (fun e => by have := (HL9.out.lt _ e.symm).1; omega)
          have hb10 := (hbw9.out.alloc hbw9.out.size (.cells (Sd.mk N1 M0 h0).cells.toArray 227)).grown g10 (by simp; omega) (fun q e => by have := (HL9.out.lt _ e).1; omega)
          have hsz10 := g10.size
          have hD10 : Hid (∀ q, v10.ownBlock = some q → u12.ownBlock ≠ some q) := by
            intro q h1 h2
            rcases hq10 q h1 with h3 | h3
            · exact hD.out q h3 h2
            · have := (HR9.out.lt q h2).2
              first | omega | (simp at h3; omega)
          have HS10 := Lib.hid hS10
          have HG10 := Lib.hid hG10
          have HL10 := Lib.hid hL10
          have HR10 := Lib.hid hR10
          have HZ10 := Lib.hid hZ10
          have HB10 := Lib.hid hb10
          clear hS10 hG10 hL10 hR10 hZ10 hb10 g10 hq10 HS9 HG9 HL9 HR9 hZ9 hbw9 hDk
          go_wp2_with (first | ((with_reducible show wpList _ _ _ (⟨some 94, _, _, _, _, _⟩ :: _) _ _); refine wpList_load_mid rfl 227 (.tmp 93) rfl g 34 (by rfl) (Sd.mk N1 M1 h1).cells _ (two_range1 HG10.out L0.out) Tryz.underlying227 rfl (by rw [Sd.cells_len (Sd.mk N1 M1 h1) L1.out]; exact Tryz.sizeSeed) ?_) | ((with_reducible show wpList _ _ _ (⟨none, Op.store _ (.tmp 10) _, _, _, _, _⟩ :: _) _ _); refine wpList_storeBlk rfl 227 (.tmp 10) (.tmp 94) rfl (w.heap.size + 1) (Sd.mk N1 M1 h1).cells.toArray (by rfl) (by rfl) _ _ HS10.out (by rw [List.size_toArray, Sd.cells_len (Sd.mk N1 M1 h1) L1.out]; exact Tryz.sizeSeed) (by rw [List.size_toArray, List.size_toArray, Sd.cells_len (Sd.mk N1 M1 h1) L1.out, Sd.cells_len T H32.out]) (Sd.cells_all (Sd.mk N1 M1 h1)) ?_; intro w11 hS11 g11; have HS11 := Lib.hid hS11; have HL11 := Lib.hid (own_grown HL10.out g11 (fun g e => by cases e; omega)); have HR11 := Lib.hid (own_grown HR10.out g11 (fun g e => by cases e; omega)); have HZ11 := Lib.hid (HZ10.out.grown g11 (by simp)); have HB11 := Lib.hid (HB10.out.trans (grown_below g11 (by omega) HB10.out.size)); have hsz11 := g11.size; clear hS11 g11 HS10 HG10 HL10 HR10 HZ10 HB10))
          go_roundg (gk - 1)
          case measure => have := HLV.out; omega
          case rel =>
            have e := hway.out
            refine ⟨n + 1, _, _, by have := HLV.out; omega, rfl, rfl, ?_, ?_, ?_, hD10, HZ11.out, HB11.out, by first | omega | (simp at hsz10; omega)⟩
            · rw [e]; exact HS11.out
            · rw [e]; simp only [List.length_append, List.length_singleton, List.flatMap_append, List.flatMap_cons, List.flatMap_nil, List.append_nil]; exact HL11.out
            · rw [e]; exact HR11.out
    · have hd3 : decide ((T.lv : Int) < (B : Int)) = false := by simp; omega
      go_wp2_with fail
      refine wp_region_held_drew (S := fun x => Blk x (w.heap.size + 1) T.cells.toArray 227 ∧ Blk x (r) #[.int .i64 B, .slice (some ⟨g0, 0, none⟩) l.length c] 158 ∧ Below wr.heap.size wr x) (by kernel_rfl) ⟨hS'.drew, hrow.drew, below_drewN hbwr 1⟩ (fun hSq484 => ?_)
      refine wpAnyH_take (i := 0) (v := .pointer (some ⟨w.heap.size + 1, 0, none⟩)) rfl (by kernel_rfl) (by kernel_rfl) (by kernel_rfl) (fun _ _ _ h => h) (Or.inl ⟨by rfl, fun x hx => by go_simp⟩) hSq484 ?_
      simp only [Act.put, List.getElem_toArray, List.getElem_cons_zero, List.getElem_cons_succ, List.setIfInBounds_toArray, List.set_cons_zero, List.set_cons_succ]
      refine wpAnyH_take (i := 1) (v := .int .i64 T.lv) rfl (by kernel_rfl) (by kernel_rfl) (by kernel_rfl) (fun _ _ _ h => h) (Or.inl ⟨by rfl, fun x hx => by have hc := hx.1.cell 0 (.int .i64 T.lv) rfl; go_simp⟩) hSq484 ?_
      simp only [Act.put, List.getElem_toArray, List.getElem_cons_zero, List.getElem_cons_succ, List.setIfInBounds_toArray, List.set_cons_zero, List.set_cons_succ]
      refine wpAnyH_take (i := 2) (v := .pointer (some ⟨r, 0, none⟩)) rfl (by kernel_rfl) (by kernel_rfl) (by kernel_rfl) (fun _ _ _ h => h) (Or.inl ⟨by rfl, fun x hx => by go_simp⟩) hSq484 ?_
      simp only [Act.put, List.getElem_toArray, List.getElem_cons_zero, List.getElem_cons_succ, List.setIfInBounds_toArray, List.set_cons_zero, List.set_cons_succ]
      refine wpAnyH_take (i := 3) (v := .pointer (some ⟨r, 0, none⟩)) rfl (by kernel_rfl) (by kernel_rfl) (by kernel_rfl) (fun _ _ _ h => h) (Or.inl ⟨by rfl, fun x hx => by go_simp⟩) hSq484 ?_
      simp only [Act.put, List.getElem_toArray, List.getElem_cons_zero, List.getElem_cons_succ, List.setIfInBounds_toArray, List.set_cons_zero, List.set_cons_succ]
      refine wpAnyH_take (i := 4) (v := .pointer (some ⟨r, 0, none⟩)) rfl (by kernel_rfl) (by kernel_rfl) (by kernel_rfl) (fun _ _ _ h => h) (Or.inl ⟨by rfl, fun x hx => by go_simp⟩) hSq484 ?_
      simp only [Act.put, List.getElem_toArray, List.getElem_cons_zero, List.getElem_cons_succ, List.setIfInBounds_toArray, List.set_cons_zero, List.set_cons_succ]
      refine wpAnyH_take (i := 5) (v := .int .i64 B) rfl (by kernel_rfl) (by kernel_rfl) (by kernel_rfl) (fun _ _ _ h => h) (Or.inl ⟨by rfl, fun x hx => by have hc := hx.2.1.cell 0 (.int .i64 B) rfl; go_simp⟩) hSq484 ?_
      simp only [Act.put, List.getElem_toArray, List.getElem_cons_zero, List.getElem_cons_succ, List.setIfInBounds_toArray, List.set_cons_zero, List.set_cons_succ]
      refine wpAnyH_take (i := 6) (v := .bool false) rfl (by kernel_rfl) (by kernel_rfl) (by kernel_rfl) (fun _ _ _ h => h) (Or.inl ⟨by rfl, fun x hx => by go_simp; omega⟩) hSq484 ?_
      simp only [Act.put, List.getElem_toArray, List.getElem_cons_zero, List.getElem_cons_succ, List.setIfInBounds_toArray, List.set_cons_zero, List.set_cons_succ]
      refine wpAnyH_done (by kernel_rfl) ?_ _
      have hS5 := hSq484.1
      have hb5 := hSq484.2.2
      clear hSq484 hS' hrow hbwr
      have hL5 := Lib.hid (own_below hL.out hb5)
      have hR5 := Lib.hid (own_below hR.out hb5)
      have hZ5 := hZ.out.below hb5 hZ.out.lt
      have hbw5 := hbw.out.trans (hb5.mono hbw.out.size)
      have hws5 := hb5.size
      have hlen := stK_len B p s n
      have hnB : n = B - s.lv := by omega
      have HLS := Lib.hid hL32
      have HRS := Lib.hid hR32
      clear hL hR hZ hbw hb5 hL32 hR32
      generalize (World.drew wr) = W5 at hS5 hL5 hR5 hZ5 hbw5 hws5 ⊢
      obtain ⟨F, hF⟩ : ∃ F, F = keyT := ⟨_, rfl⟩
      obtain ⟨kk, hkk⟩ : ∃ k, k = F T.h := ⟨_, rfl⟩
      have HKK : Hid (kk.length = 32) := by show _ = _; rw [hkk, hF]; exact keyT_len _
      have c3 : ∀ (g : Nat) y, Blk y g #[.string (str lKey), .string (str T.h)] 9 → Calls Tryz.prog 94 #[.slice (some ⟨g, 0, none⟩) 2 2] y fun e w' => e = .returned (.agg (kk.map bv).toArray) ∧ Below y.heap.size y w' := fun g y hg => by
        have hst : StrsAt y (some ⟨g, 0, none⟩) 2 [lKey, T.h] := StrsAt.blk [lKey, T.h] hg
        have := Sum_calls (some ⟨g, 0, none⟩) 2 2 [lKey, T.h] y hst (by simp [H32.out, lKey]) (by omega)
        rw [hkk, hF]
        simpa [keyT] using this
      have HFF := Lib.hid hF
      have HKF := Lib.hid hkk
      clear hF hkk
      have hcv := conv_sd H32.out hS5
      go_wp2_with fail
      refine (c3 _ _ (Blk.new W5 #[.string (str lKey), .string (str T.h)] 9)).mono ?_
      rintro e w6 ⟨rfl, b6⟩
      have b6' : Below W5.heap.size W5 w6 := (below_alloc1 W5 _).trans (b6.mono (by simp))
      have hS6 := (hS5.below b6' hS5.lt).alloc (.cells Z32 23)
      have hZ6 := (hZ5.below b6' hZ5.lt).alloc (.cells Z32 23)
      have hL6 := Lib.hid (World.ownsRow.alloc (own_below hL5.out b6') (.cells Z32 23))
      have hR6 := Lib.hid (World.ownsRow.alloc (own_below hR5.out b6') (.cells Z32 23))
      have hbw6 := (hbw5.trans (b6'.mono hbw5.size)).alloc (by have := hbw5.size; have := b6'.size; omega) (.cells Z32 23)
      have hN := Blk.new w6 Z32 23
      have hs6 := b6'.size
      clear hcv c3 hS5 hZ5 hbw5 b6 b6' hL5 hR5
      go_wp2_with (first | ((with_reducible show wpList _ _ _ (⟨none, Op.store _ (.tmp 15) _, _, _, _, _⟩ :: _) _ _); refine wpList_storeBlk rfl 23 (.tmp 15) (.tmp 99) rfl w6.heap.size (kk.map bv).toArray (by rfl) (by rfl) _ _ hN (by rw [bv_size, HKK.out]; exact Tryz.sizeHash) (by rw [bv_size, HKK.out, Z32_size]) (bv_all _) ?_; intro w7 hK7 g7; have hS7 := hS6.grown g7 (by simp; omega); have hZ7 := hZ6.grown g7 (by simp; omega); have hL7 := Lib.hid (hL6.out.kept g7 (.inr (own_ne hL6.out hN (by decide)))); have hR7 := Lib.hid (hR6.out.kept g7 (.inr (own_ne hR6.out hN (by decide)))); have hbw7 := below_new hbw6 g7 (by omega) hbw6.size; have hs7 := Nat.le_trans (below_alloc1 w6 (.cells Z32 23)).size g7.size; clear hN hS6 hZ6 hL6 hR6 hbw6 g7) | ((with_reducible show wpList _ _ _ (⟨some 102, _, _, _, _, _⟩ :: _) _ _); refine wpList_load_mid rfl 23 (.tmp 101) rfl (w.heap.size + 1) 2 (by rfl) (T.h.map bv) _ (sd_range hS7) Tryz.underlying23 rfl (by rw [List.length_map, H32.out]; exact Tryz.sizeHash) ?_) | ((with_reducible show wpList _ _ _ (⟨some 103, _, _, _, _, _⟩ :: _) _ _); refine wpList_bsOne rfl 112 23 (.tmp 102) rfl (T.h.map bv).toArray (by rfl) Tryz.underlying112 _ 32 Tryz.zsHash (by rw [bv_size]; exact H32.out) (by omega) (by omega) ?_) | ((with_reducible show wpList _ _ _ (⟨some 104, _, _, _, _, _⟩ :: _) _ _); refine wpList_loadBlk rfl 23 (.tmp 15) rfl w6.heap.size (by rfl) _ _ _ (hK7.alloc _) Tryz.underlying23 rfl (by rw [bv_size, HKK.out]; exact Tryz.sizeHash) ?_) | ((with_reducible show wpList _ _ _ (⟨some 105, _, _, _, _, _⟩ :: _) _ _); refine wpList_bsOne rfl 112 23 (.tmp 104) rfl (kk.map bv).toArray (by rfl) Tryz.underlying112 _ 32 Tryz.zsHash (by rw [bv_size]; exact HKK.out) (by omega) (by omega) ?_))
      refine (NoteNil_calls _ _ 1 1 (by omega) rfl _).mono ?_
      rintro e w8 ⟨rfl, b8⟩
      have bq : Below w7.heap.size w7 w8 := ((below_alloc1 w7 _).trans ((below_alloc1 _ _).mono (by simp))).trans (b8.mono (by simp; omega))
      have hK8 := hK7.below bq hK7.lt
      have hZ8 := hZ7.below bq hZ7.lt
      have hL8 := Lib.hid (own_below hL7.out bq)
      have hR8 := Lib.hid (own_below hR7.out bq)
      have hbw8 := hbw7.trans (bq.mono hbw7.size)
      have hs8 := bq.size
      clear hK7 hZ7 hL7 hR7 hbw7 hS7 b8 bq
      go_wp2_with fail
      refine (Reverse_any (w.heap.size + 2) _ _ (stK B p s n).2.2 _ hR8.out rfl HRS.out).mono ?_
      rintro e w9 ⟨rfl, hR9, g9⟩
      have hs9 := g9.size
      have hK9 := hK8.grown g9 (fun e => own_ne hR8.out hK8 (by decide) e.symm)
      have hZ9 := hZ8.grown g9 (fun e => own_ne hR8.out hZ8 (by decide) e.symm)
      have hDk : u11.ownBlock = none ∨ u11.ownBlock ≠ u12.ownBlock := by
        cases hk : u11.ownBlock with
        | none => exact .inl rfl
        | some q => exact .inr (fun e => hD.out q hk e.symm)
      have hL9 := Lib.hid (hL8.out.kept g9 hDk)
      have HR9 := Lib.hid hR9
      have hb9 : Below w.heap.size w w9 := hbw8.grown g9 (by omega) (fun q e => by have := (hR8.out.lt _ e).1; omega)
      have hKlt := hK9.lt
      clear hR9 hK8 hZ8 hL8 hR8 hbw8 g9 hDk
      go_wp2_with fail
      refine wp_region_held_drew (S := fun x => Blk x (w6.heap.size) (kk.map bv).toArray 23 ∧ Below w.heap.size w x) (by kernel_rfl) ⟨hK9.drew, below_drewN hb9 1⟩ (fun hSq485 => ?_)
      have hEq486 := Blk.drew hZ9
      refine wpAnyH_take (i := 0) rfl (by kernel_rfl) (by kernel_rfl) (by kernel_rfl) (fun _ _ _ h => h) (yieldsIf_load_mid (by rfl) 23 (.tmp 15) rfl (w6.heap.size) 0 (by rfl) (kk.map bv) _ (fun x hx => blk_rangeP hx.1) Tryz.underlying23 rfl (by rw [List.length_map, HKK.out]; exact Tryz.sizeHash)) hSq485 ?_
      simp only [Act.put, List.getElem_toArray, List.getElem_cons_zero, List.getElem_cons_succ, List.setIfInBounds_toArray, List.set_cons_zero, List.set_cons_succ]
      refine wpAnyH_take (i := 1) (v := u11) rfl (by kernel_rfl) (by kernel_rfl) (by kernel_rfl) (fun _ _ _ h => h) (Or.inl ⟨by rfl, fun x hx => by go_simp⟩) hSq485 ?_
      simp only [Act.put, List.getElem_toArray, List.getElem_cons_zero, List.getElem_cons_succ, List.setIfInBounds_toArray, List.set_cons_zero, List.set_cons_succ]
      refine wpAnyH_take (i := 2) (v := u12) rfl (by kernel_rfl) (by kernel_rfl) (by kernel_rfl) (fun _ _ _ h => h) (Or.inl ⟨by rfl, fun x hx => by go_simp⟩) hSq485 ?_
      simp only [Act.put, List.getElem_toArray, List.getElem_cons_zero, List.getElem_cons_succ, List.setIfInBounds_toArray, List.set_cons_zero, List.set_cons_succ]
      refine wpAnyH_ready (rs := [3]) (by kernel_rfl) (by simp) ?_
      refine AllReadyH.cons rfl (fun K hK => ?_) AllReadyH.nil
      rw [if_pos (by rfl)]
      refine wp_append_seeds (.tmp 111) (.tmp 112) rfl (w.heap.size + 2) _ _ _ (stK B p s n).2.1 (stK B p s n).2.2.reverse (by rfl) (by rfl) hL9.out.drew (HR9.out.below (below_drewN (Below.refl _ _) 1)) HLS.out rfl (by omega) (by rw [List.length_reverse]; omega) (by show w.heap.size + 2 ≤ w9.heap.size; omega) ?_
      intro vq487 yq488 hsdq491 grq489 hqq490
      have hEq493 := hEq486.grown grq489 (fun e => by have := (hL9.out.lt _ e.symm).1; omega)
      refine hK.out _ _ ⟨hSq485.1.grown grq489 (fun e => own_ne hL9.out hK9 (by decide) e.symm), hSq485.2.grown grq489 (by show w.heap.size ≤ w9.heap.size; omega) (fun q e => by have := (hL9.out.lt _ e).1; omega)⟩ (fun hSq492 => ?_)
      clear hK K hSq485
      refine wpAnyH_ready (rs := [4]) (by kernel_rfl) (by simp) ?_
      refine AllReadyH.cons rfl (fun K hK => ?_) AllReadyH.nil
      rw [if_pos (by rfl)]
      refine wp_storeBlk 23 (.tmp 8) (.tmp 110) rfl w.heap.size (kk.map bv).toArray (by rfl) (by rfl) _ _ hEq493 (by rw [bv_size, HKK.out]; exact Tryz.sizeHash) (by rw [bv_size, HKK.out, Z32_size]) (bv_all _) ?_
      intro yq494 hEq495 grq496
      have hsdq498 := hsdq491.grown grq496 (fun q hq e => by have := hqq490 q hq; simp at e; omega)
      refine hK.out _ _ ⟨hSq492.1.grown grq496 (by simp; omega), below_new hSq492.2 grq496 (Nat.le_refl _) hSq492.2.size⟩ (fun hSq497 => ?_)
      clear hK K hSq492
      refine wpAnyH_ready (rs := [5]) (by kernel_rfl) (by simp) ?_
      refine AllReadyH.cons rfl (fun K hK => ?_) AllReadyH.nil
      go_simp
      refine hK.out _ _ hSq497 (fun hSq499 => ?_)
      clear hK K hSq497
      refine wpAnyH_done (by kernel_rfl) ?_ _
      have hres := hEq495
      have hfb := hSq499.2
      have hsd := hsdq498
      go_wp2_with fail
      refine ret_blk2 rfl w.heap.size _ _ _ (by rfl) hres Tryz.underlying23 rfl (by rw [bv_size, HKK.out]; exact Tryz.sizeHash) rfl ?_
      have hkT : kk = keyT (stK B p s (B - s.lv)).1.h := by rw [HKF.out, HFF.out, HTT.out, hnB]
      rw [hnB] at hsd
      refine ⟨_, ?_, hsd, hfb⟩
      rw [← hkT]
      rfl
end Go.Proofs.YtjlpdbaknhbgdaaGreat
