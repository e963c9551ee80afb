/-
  bevylaw04's few and noted.
-/
import Derived.Test.YtjjmcogdohnhjaaBookRefFol
import Derived.Test.YtjjmcogdohnhjaaBookAwake
import Derived.Test.YtjjmcogdohnhjaaBookOpen
import Derived.WalkLawsBesides
import Derived.Outline
import Derived.Handy
set_option linter.unusedSimpArgs false
set_option linter.unusedVariables false
namespace Go.Proofs.Ytjjmcogdohnhjaa
open Go.RowKit

def fewF (f : FactT) : Bool := decide (f.ins.length ≤ 60) && decide (f.outs.length ≤ 60)
def fewB (fs : List FactT) : Bool := decide (fs.length ≤ 60) && fs.all fewF
theorem fewB_no {fs : List FactT} {i : Nat} {f : FactT} (hf : fs[i]? = some f) (h : 60 ≤ i ∨ 60 < f.ins.length ∨ 60 < f.outs.length) : fewB fs = false := by
  have hi := (List.getElem?_eq_some_iff.1 hf).1
  have hm := List.mem_of_getElem? hf
  cases hb : fewB fs with
  | false => rfl
  | true =>
    unfold fewB at hb
    rw [Bool.and_eq_true, decide_eq_true_eq, List.all_eq_true] at hb
    have h2 := hb.2 f hm
    unfold fewF at h2
    rw [Bool.and_eq_true, decide_eq_true_eq, decide_eq_true_eq] at h2
    omega
theorem fewB_yes {fs : List FactT} (h1 : fs.length ≤ 60) (h : ∀ f ∈ fs, f.ins.length ≤ 60 ∧ f.outs.length ≤ 60) : fewB fs = true := by
  unfold fewB
  rw [Bool.and_eq_true, decide_eq_true_eq, List.all_eq_true]
  refine ⟨h1, fun f hf => ?_⟩
  unfold fewF
  rw [Bool.and_eq_true, decide_eq_true_eq, decide_eq_true_eq]
  exact h f hf
theorem fewB_elim {fs : List FactT} (h : fewB fs = true) : fs.length ≤ 60 ∧ ∀ f ∈ fs, f.ins.length ≤ 60 ∧ f.outs.length ≤ 60 := by
  unfold fewB at h
  rw [Bool.and_eq_true, decide_eq_true_eq, List.all_eq_true] at h
  refine ⟨h.1, fun f hf => ?_⟩
  have h2 := h.2 f hf
  unfold fewF at h2
  rw [Bool.and_eq_true, decide_eq_true_eq, decide_eq_true_eq] at h2
  exact h2
set_option maxHeartbeats 8000000 in
set_option maxRecDepth 100000 in
theorem few_calls (v : Value) (fs : List FactT) (w : World) (hF : FactsAt w v fs) (hL : fs.length ≤ maxLen ∧ ∀ f ∈ fs, FBound f) :
    Calls Try.prog 9 #[v] w fun e w' => e = .returned (.bool (fewB fs)) ∧ w = w' := by
  obtain ⟨vao, vc, rfl, hvc⟩ := hF.slice
  obtain ⟨n, hnn⟩ : ∃ n, n = fs.length := ⟨_, rfl⟩
  obtain ⟨hL1, hL2⟩ := hL
  rw [← hnn] at hF hvc hL1 ⊢
  obtain ⟨D, hD⟩ : ∃ D, D = fewB fs := ⟨_, rfl⟩
  rw [← hD]
  have HD := Lib.hid hD
  have HF := Lib.hid hF
  have HN := Lib.hid hnn
  have HL2 := Lib.hid hL2
  clear hF hnn hL2 hD
  unfold maxLen at hL1
  go_enter Try.func9, Try.ntmps9
  go_wp2_with fail
  go_loop [3] (fun i => ∃ (k : Nat), k ≤ n ∧ k ≤ 60 ∧ i = .int .i64 (k : Nat) ∧ Hid (∀ f ∈ fs.take k, f.ins.length ≤ 60 ∧ f.outs.length ≤ 60)) (fun i => n - (intOf i).toNat)
  case atStart => exact ⟨0, by omega, by omega, rfl, Lib.hid (fun f hf => by simp at hf)⟩
  case round =>
    obtain ⟨k, hk, hk60, rfl, HK⟩ := hrel
    by_cases hlt : k < n
    · obtain ⟨f, hf⟩ : ∃ f, fs[k]? = some f := ⟨fs[k]'(by rw [← HN.out]; omega), List.getElem?_eq_getElem _⟩
      have HFK := Lib.hid hf
      obtain ⟨g, o, x, y, rfl, hgl, -, hca, hcb, hx, hy⟩ := HF.out.fact k f hf
      obtain ⟨xao, xc, rfl, -⟩ := hx.slice
      obtain ⟨yao, yc, rfl, -⟩ := hy.slice
      obtain ⟨p, hp⟩ : ∃ p, p = f.ins.length := ⟨_, rfl⟩
      obtain ⟨q, hq⟩ : ∃ q, q = f.outs.length := ⟨_, rfl⟩
      have hb := HL2.out f (List.mem_of_getElem? hf)
      have hb1 := hb.1
      have hb2 := hb.2
      unfold maxLen at hb1 hb2
      rw [← hp] at hca hb1
      rw [← hq] at hcb hb2
      have HP := Lib.hid hp
      have HQ := Lib.hid hq
      clear hf hx hy hp hq hb
      by_cases h60 : 60 ≤ k
      · obtain rfl : k = 60 := by omega
        simp only [Int.cast_ofNat_Int] at *
        have hD : Hid (D = false) := by show _ = _; rw [HD.out]; exact fewB_no HFK.out (.inl (by omega))
        go_wp2_with fail
        go_ret
        exact ⟨by rw [hD.out]; rfl, rfl⟩
      · have hd0 : decide ((k : Int) ≥ 60) = false := by rw [decide_eq_false_iff_not]; omega
        by_cases hp60 : 60 < p
        · have hd1 : decide ((p : Int) > 60) = true := by rw [decide_eq_true_eq]; omega
          have hD : Hid (D = false) := by show _ = _; rw [HD.out]; exact fewB_no HFK.out (.inr (.inl (by rw [← HP.out]; exact hp60)))
          go_wp2_with fail
          go_ret
          exact ⟨by rw [hD.out]; rfl, rfl⟩
        · have hd1 : decide ((p : Int) > 60) = false := by rw [decide_eq_false_iff_not]; omega
          by_cases hq60 : 60 < q
          · have hd2 : decide ((q : Int) > 60) = true := by rw [decide_eq_true_eq]; omega
            have hD : Hid (D = false) := by show _ = _; rw [HD.out]; exact fewB_no HFK.out (.inr (.inr (by rw [← HQ.out]; exact hq60)))
            go_wp2_with fail
            go_ret
            exact ⟨by rw [hD.out]; rfl, rfl⟩
          · have hd2 : decide ((q : Int) > 60) = false := by rw [decide_eq_false_iff_not]; omega
            have HK2 : Hid (∀ f ∈ fs.take (k + 1), f.ins.length ≤ 60 ∧ f.outs.length ≤ 60) := fun f' hf' => by
              obtain ⟨h3, h4⟩ := List.getElem?_eq_some_iff.1 HFK.out
              rw [List.take_succ_eq_append_getElem h3, h4, List.mem_append, List.mem_singleton] at hf'
              rcases hf' with hf' | rfl
              · exact HK.out f' hf'
              · rw [← HP.out, ← HQ.out]; omega
            go_wp2_with fail
            go_round
            case rel => exact ⟨k + 1, by omega, by omega, by go_num, HK2⟩
            case measure => simp [intOf]; omega
    · obtain rfl : n = k := by omega
      have hD : Hid (D = true) := by
        show _ = _
        rw [HD.out]
        have e := HK.out
        rw [HN.out, List.take_length] at e
        exact fewB_yes (by rw [← HN.out]; exact hk60) e
      go_wp2_with fail
      go_ret
      exact ⟨by rw [hD.out]; rfl, rfl⟩
/-- The book's facts behind these notes. -/
def bookT (fs : List FactT) : List FactT := fs.foldl noteT []
theorem bookT_succ {fs : List FactT} {k : Nat} {f : FactT} (hf : fs[k]? = some f) : bookT (fs.take (k + 1)) = noteT (bookT (fs.take k)) f := by
  obtain ⟨h3, h4⟩ := List.getElem?_eq_some_iff.1 hf
  unfold bookT
  rw [List.take_succ_eq_append_getElem h3, h4, List.foldl_append]
  rfl
theorem noteT_sub {fs : List FactT} {f g : FactT} (h : g ∈ noteT fs f) : g ∈ fs ∨ g = f := by
  unfold noteT at h
  split at h
  · exact .inl h
  · rcases List.mem_append.1 h with h | h
    · exact .inl h
    · exact .inr (List.mem_singleton.1 h)
theorem noteT_mono {fs : List FactT} {f g : FactT} (h : g ∈ fs) : g ∈ noteT fs f := by
  unfold noteT
  split
  · exact h
  · exact List.mem_append_left _ h
theorem noteT_self {fs : List FactT} {f : FactT} (h : f.outs ≠ []) : f ∈ noteT fs f := by
  unfold noteT
  split
  · rename_i h1
    rcases h1 with h1 | h1
    · exact absurd h1 h
    · exact h1
  · exact List.mem_append_right _ (List.mem_singleton.2 rfl)
theorem foldl_sub : ∀ (l fs : List FactT) (g : FactT), g ∈ l.foldl noteT fs → g ∈ fs ∨ g ∈ l
  | [], fs, g, h => .inl h
  | f :: l, fs, g, h => by
    rcases foldl_sub l _ g h with h | h
    · rcases noteT_sub h with h | rfl
      · exact .inl h
      · exact .inr List.mem_cons_self
    · exact .inr (List.mem_cons_of_mem _ h)
theorem foldl_mono : ∀ (l fs : List FactT) (g : FactT), g ∈ fs → g ∈ l.foldl noteT fs
  | [], fs, g, h => h
  | f :: l, fs, g, h => foldl_mono l _ g (noteT_mono h)
theorem foldl_has : ∀ (l fs : List FactT) (g : FactT), g ∈ l → g.outs ≠ [] → g ∈ l.foldl noteT fs
  | f :: l, fs, g, h, h0 => by
    rcases List.mem_cons.1 h with rfl | h
    · exact foldl_mono l _ g (noteT_self h0)
    · exact foldl_has l _ g h h0
theorem noteT_len (fs : List FactT) (f : FactT) : (noteT fs f).length ≤ fs.length + 1 := by
  unfold noteT
  split <;> simp
theorem foldl_len : ∀ (l fs : List FactT), (l.foldl noteT fs).length ≤ fs.length + l.length
  | [], fs => Nat.le_refl _
  | f :: l, fs => by
    have h1 := foldl_len l (noteT fs f)
    have h2 := noteT_len fs f
    rw [List.foldl_cons, List.length_cons]; omega
theorem bookT_sub {fs : List FactT} {g : FactT} (h : g ∈ bookT fs) : g ∈ fs := by
  rcases foldl_sub fs [] g h with h | h
  · cases h
  · exact h
theorem bookT_len (fs : List FactT) : (bookT fs).length ≤ fs.length := by have := foldl_len fs []; simpa [bookT] using this
/-- What follows of the noted facts is what follows of the facts. -/
theorem bookT_fol {fs : List FactT} {a : List HsT} {h : HsT} : Fol (bookT fs) a h ↔ Fol fs a h := by
  constructor
  · exact Fol.mono (fun f hf => bookT_sub hf) (fun x hx => .base hx)
  · intro h1
    induction h1 with
    | base h => exact .base h
    | @step f x hf _ ho ih => exact .step (foldl_has fs [] f hf (fun e => by rw [e] at ho; cases ho)) ih ho
theorem ins_sum {c : Nat} : ∀ (fs : List FactT), (∀ f ∈ fs, f.ins.length ≤ c) → (fs.flatMap (·.ins)).length ≤ c * fs.length
  | [], _ => by simp
  | f :: fs, h => by
    have h1 := ins_sum fs (fun g hg => h g (List.mem_cons_of_mem _ hg))
    have h2 := h f List.mem_cons_self
    rw [List.flatMap_cons, List.length_append, List.length_cons, Nat.mul_succ]; omega
theorem outs_sum {c : Nat} : ∀ (fs : List FactT), (∀ f ∈ fs, f.outs.length ≤ c) → (fs.flatMap (·.outs)).length ≤ c * fs.length
  | [], _ => by simp
  | f :: fs, h => by
    have h1 := outs_sum fs (fun g hg => h g (List.mem_cons_of_mem _ hg))
    have h2 := h f List.mem_cons_self
    rw [List.flatMap_cons, List.length_append, List.length_cons, Nat.mul_succ]; omega
/-- Facts of the size that is looked at. -/
structure Fews (fs : List FactT) : Prop where
  ok : ∀ f ∈ fs, FOk f
  len : fs.length ≤ 60
  ins : ∀ f ∈ fs, f.ins.length ≤ 60
  outs : ∀ f ∈ fs, f.outs.length ≤ 60
theorem Fews.take {fs : List FactT} (h : Fews fs) (k : Nat) : Fews (fs.take k) := ⟨fun f hf => h.ok f (List.mem_of_mem_take hf), by rw [List.length_take]; have := h.len; omega, fun f hf => h.ins f (List.mem_of_mem_take hf), fun f hf => h.outs f (List.mem_of_mem_take hf)⟩
theorem Fews.book {fs : List FactT} (h : Fews fs) : Fews (bookT fs) := ⟨fun f hf => h.ok f (bookT_sub hf), Nat.le_trans (bookT_len fs) h.len, fun f hf => h.ins f (bookT_sub hf), fun f hf => h.outs f (bookT_sub hf)⟩
theorem Fews.sum {fs : List FactT} (h : Fews fs) : (fs.flatMap (·.ins)).length ≤ 3600 := by
  have h1 := ins_sum fs h.ins
  have h2 := Nat.mul_le_mul_left 60 h.len
  omega
theorem Fews.univ {fs : List FactT} (h : Fews fs) {a : List HsT} (ha : a.length ≤ 100000) : (univ fs a).length ≤ 103600 := by
  have h1 := outs_sum fs h.outs
  have h2 := Nat.mul_le_mul_left 60 h.len
  unfold Proofs.Ytjjmcogdohnhjaa.univ
  rw [List.length_append]; omega
def NotedPost (base : Nat) (w : World) (fs : List FactT) (e : Ending) (w' : World) : Prop :=
  ∃ b sm nm dm B mv, e = .returned (.tuple #[.pointer (some ⟨b, 0, none⟩), mv, .bool true]) ∧ BookIs w' B b sm nm dm (bookT fs) (fun _ => none) ∧ RFactsOwn w' base mv (bookT fs) ∧ base ≤ B ∧ B ≤ w'.heap.size ∧ Below base w w'
theorem NotedPost.mk {base : Nat} {w w' : World} {fs : List FactT} {b sm nm dm B : Nat} {mv : Value} (h1 : BookIs w' B b sm nm dm (bookT fs) (fun _ => none)) (h2 : RFactsOwn w' base mv (bookT fs)) (h3 : base ≤ B) (h4 : B ≤ w'.heap.size) (h5 : Below base w w') : NotedPost base w fs (.returned (.tuple #[.pointer (some ⟨b, 0, none⟩), mv, .bool true])) w' := ⟨b, sm, nm, dm, B, mv, rfl, h1, h2, h3, h4, h5⟩
theorem RFactsOwn.sliceM {w : World} {base : Nat} {v : Value} {fs : List FactT} (h : RFactsOwn w base v fs) : ∃ ao n c, v = .slice ao n c ∧ n = fs.length := by
  obtain ⟨ao, c, e, -⟩ := h.at.slice
  exact ⟨_, _, _, e, rfl⟩
set_option maxHeartbeats 32000000 in
set_option maxRecDepth 100000 in
theorem noted_calls (v : Value) (fs : List FactT) (w : World) (hF : FactsAt w v fs) (hfs : Fews fs) :
    Calls Try.prog 10 #[v] w (NotedPost w.heap.size w fs) := by
  obtain ⟨vao, vc, rfl, hvc⟩ := hF.slice
  obtain ⟨base, hbase⟩ : ∃ base, base = w.heap.size := ⟨_, rfl⟩
  have HBS : Hid (base = w.heap.size) := hbase
  obtain ⟨n, hnn⟩ : ∃ n, n = fs.length := ⟨_, rfl⟩
  have hn60 := hfs.len
  rw [← hnn] at hF hvc hn60 ⊢
  have HFA : Hid (∀ (i : Nat) (f : FactT), fs[i]? = some f → ∃ g o x y, vao = some ⟨g, o, none⟩ ∧ ∀ w', Below base w w' → w'.cell? ⟨g, o + i * 2, none⟩ = some x ∧ w'.cell? ⟨g, o + i * 2 + 1, none⟩ = some y ∧ HashesAt w' x f.ins ∧ HashesAt w' y f.outs) := fun i f hi => by
    obtain ⟨g, o, x, y, h1, h2, -, h3, h4, h5, h6⟩ := hF.fact i f hi
    refine ⟨g, o, x, y, h1, fun w' b => ?_⟩
    rw [hbase] at b
    exact ⟨(b.cell (p := ⟨g, _, none⟩) h2).trans h3, (b.cell (p := ⟨g, _, none⟩) h2).trans h4, h5.below b, h6.below b⟩
  have HN := Lib.hid hnn
  have HFS := Lib.hid hfs
  clear hF hnn hfs
  rw [← hbase]
  have hB0 := Below.refl base w
  go_enter Try.func10, Try.ntmps10
  go_wp2_with fail
  refine (New_calls _).mono ?_
  rintro e w1 ⟨b, sm, nm, dm, rfl, hbi, b1⟩
  obtain ⟨B, hB⟩ : ∃ B, B = w.heap.size := ⟨_, rfl⟩
  rw [← hB] at hbi b1
  have HBI := Lib.hid hbi
  have HBB : Hid (base ≤ B ∧ ∀ x, Below base w x → B ≤ x.heap.size) := ⟨by rw [hB, hbase]; exact Nat.le_refl _, fun x bx => by rw [hB]; exact bx.size⟩
  have HB1 : Hid (Below base w w1) := b1.mono HBB.out.1
  clear hbi b1 hB hB0
  go_wp2_with fail
  go_loopw [6, 7, 8] (fun mv ok i wr => ∃ (k : Nat), k ≤ n ∧ i = .int .i64 (k : Nat) ∧ ok = .bool true ∧ Hid (RFactsOwn wr base mv (bookT (fs.take k))) ∧ Hid (BookIs wr B b sm nm dm (bookT (fs.take k)) (fun _ => none)) ∧ Hid (Below base w wr)) (fun _ _ i _ => n - (intOf i).toNat)
  case atStart => exact ⟨0, by omega, rfl, rfl, Lib.hid (RFactsOwn.nil _ _), HBI, HB1⟩
  case round =>
    clear HBI HB1
    obtain ⟨k, hk, rfl, rfl, HR, HBI, HB⟩ := hrel
    obtain ⟨mao, mn, mc, rfl, hmn⟩ := HR.out.sliceM
    clear hmn
    by_cases hlt : k < n
    · obtain ⟨f, hf⟩ : ∃ f, fs[k]? = some f := ⟨fs[k]'(by rw [← HN.out]; omega), List.getElem?_eq_getElem _⟩
      have HFK := Lib.hid hf
      have HFO := Lib.hid (HFS.out.ok f (List.mem_of_getElem? hf))
      have HMS := Lib.hid (HFS.out.take k).book
      obtain ⟨g, o, x, y, rfl, hc⟩ := HFA.out k f hf
      obtain ⟨-, -, hx, hy⟩ := hc _ HB.out
      obtain ⟨xao, xc, rfl, hxc⟩ := hx.slice
      obtain ⟨yao, yc, rfl, hyc⟩ := hy.slice
      obtain ⟨p, hp⟩ : ∃ p, p = f.ins.length := ⟨_, rfl⟩
      obtain ⟨q, hq⟩ : ∃ q, q = f.outs.length := ⟨_, rfl⟩
      have hpl := HFO.out.li
      have hql := HFO.out.lo
      rw [← hp] at hx hxc hpl hc
      rw [← hq] at hy hyc hql hc
      have HC := Lib.hid hc
      obtain ⟨ms, hms⟩ : ∃ ms, ms = bookT (fs.take k) := ⟨_, rfl⟩
      have HNX : Hid (bookT (fs.take (k + 1)) = noteT ms f) := by show _ = _; rw [hms]; exact bookT_succ hf
      rw [← hms] at HR HBI HMS
      have HIX : Hid (∀ w', Below base w w' → w'.rangeAt g (o + k * 2) [.slice xao p xc, .slice yao q yc]) := fun w' b => range2 (HC.out w' b).1 (HC.out w' b).2.1
      have hB := HB.out
      clear hf hc hx hy hp hq hms HB
      go_wp2_with fail
      refine wp_region_held_drew (S := fun x => Below base w x) (by kernel_rfl) (below_drewN hB 1) (fun hSq1 => ?_)
      have hHq2 := Lib.hid (HR.out.drew)
      have hHq3 := Lib.hid (HBI.out.drew)
      refine wpAnyH_take (i := 0) (v := Value.slice mao mn mc) rfl (by kernel_rfl) (by kernel_rfl) (by kernel_rfl) (fun _ _ _ h => h) (Or.inl ⟨by rfl, fun x hx => by go_simp⟩) hSq1 ?_
      simp only [Act.put, List.getElem_toArray, List.getElem_cons_zero, List.getElem_cons_succ, List.setIfInBounds_toArray, List.set_cons_zero, List.set_cons_succ]
      refine wpAnyH_take (i := 1) (v := Value.slice (some ⟨g, o, none⟩) n vc) rfl (by kernel_rfl) (by kernel_rfl) (by kernel_rfl) (fun _ _ _ h => h) (Or.inl ⟨by rfl, fun x hx => by go_simp⟩) hSq1 ?_
      simp only [Act.put, List.getElem_toArray, List.getElem_cons_zero, List.getElem_cons_succ, List.setIfInBounds_toArray, List.set_cons_zero, List.set_cons_succ]
      refine wpAnyH_take (i := 2) (v := Value.int .i64 (k : Nat)) rfl (by kernel_rfl) (by kernel_rfl) (by kernel_rfl) (fun _ _ _ h => h) (Or.inl ⟨by rfl, fun x hx => by go_simp⟩) hSq1 ?_
      simp only [Act.put, List.getElem_toArray, List.getElem_cons_zero, List.getElem_cons_succ, List.setIfInBounds_toArray, List.set_cons_zero, List.set_cons_succ]
      refine wpAnyH_take (i := 3) (v := Value.pointer (some ⟨g, o + k * 2, none⟩)) rfl (by kernel_rfl) (by kernel_rfl) (by kernel_rfl) (fun _ _ _ h => h) (Or.inl ⟨by rfl, fun x hx => by go_simp⟩) hSq1 ?_
      simp only [Act.put, List.getElem_toArray, List.getElem_cons_zero, List.getElem_cons_succ, List.setIfInBounds_toArray, List.set_cons_zero, List.set_cons_succ]
      refine wpAnyH_take (i := 4) (v := Value.pointer (some ⟨g, o + k * 2, none⟩)) rfl (by kernel_rfl) (by kernel_rfl) (by kernel_rfl) (fun _ _ _ h => h) (Or.inl ⟨by rfl, fun x hx => by go_simp⟩) hSq1 ?_
      simp only [Act.put, List.getElem_toArray, List.getElem_cons_zero, List.getElem_cons_succ, List.setIfInBounds_toArray, List.set_cons_zero, List.set_cons_succ]
      refine wpAnyH_take (i := 5) (v := Value.slice xao p xc) rfl (by kernel_rfl) (by kernel_rfl) (by kernel_rfl) (fun _ _ _ h => h) (Or.inl ⟨by rfl, fun x hx => by have hc := (HC.out _ hx).1; go_simp⟩) hSq1 ?_
      simp only [Act.put, List.getElem_toArray, List.getElem_cons_zero, List.getElem_cons_succ, List.setIfInBounds_toArray, List.set_cons_zero, List.set_cons_succ]
      refine wpAnyH_take (i := 7) (v := Value.slice (some ⟨g, o, none⟩) n vc) rfl (by kernel_rfl) (by kernel_rfl) (by kernel_rfl) (fun _ _ _ h => h) (Or.inl ⟨by rfl, fun x hx => by go_simp⟩) hSq1 ?_
      simp only [Act.put, List.getElem_toArray, List.getElem_cons_zero, List.getElem_cons_succ, List.setIfInBounds_toArray, List.set_cons_zero, List.set_cons_succ]
      refine wpAnyH_take (i := 8) (v := Value.int .i64 (k : Nat)) rfl (by kernel_rfl) (by kernel_rfl) (by kernel_rfl) (fun _ _ _ h => h) (Or.inl ⟨by rfl, fun x hx => by go_simp⟩) hSq1 ?_
      simp only [Act.put, List.getElem_toArray, List.getElem_cons_zero, List.getElem_cons_succ, List.setIfInBounds_toArray, List.set_cons_zero, List.set_cons_succ]
      refine wpAnyH_take (i := 9) (v := Value.pointer (some ⟨g, o + k * 2, none⟩)) rfl (by kernel_rfl) (by kernel_rfl) (by kernel_rfl) (fun _ _ _ h => h) (Or.inl ⟨by rfl, fun x hx => by go_simp⟩) hSq1 ?_
      simp only [Act.put, List.getElem_toArray, List.getElem_cons_zero, List.getElem_cons_succ, List.setIfInBounds_toArray, List.set_cons_zero, List.set_cons_succ]
      refine wpAnyH_take (i := 10) (v := Value.pointer (some ⟨g, o + k * 2 + 1, none⟩)) rfl (by kernel_rfl) (by kernel_rfl) (by kernel_rfl) (fun _ _ _ h => h) (Or.inl ⟨by rfl, fun x hx => by go_simp⟩) hSq1 ?_
      simp only [Act.put, List.getElem_toArray, List.getElem_cons_zero, List.getElem_cons_succ, List.setIfInBounds_toArray, List.set_cons_zero, List.set_cons_succ]
      refine wpAnyH_take (i := 11) (v := Value.slice yao q yc) rfl (by kernel_rfl) (by kernel_rfl) (by kernel_rfl) (fun _ _ _ h => h) (Or.inl ⟨by rfl, fun x hx => by have hc := (HC.out _ hx).2.1; go_simp⟩) hSq1 ?_
      simp only [Act.put, List.getElem_toArray, List.getElem_cons_zero, List.getElem_cons_succ, List.setIfInBounds_toArray, List.set_cons_zero, List.set_cons_succ]
      refine wpAnyH_ready (rs := [6]) (by kernel_rfl) (by simp) ?_
      refine AllReadyH.cons rfl (fun K hK => ?_) AllReadyH.nil
      have hlo : base ≤ ((World.drew wr)).heap.size := Nat.le_trans (Nat.le_of_eq HBS.out) hSq1.size
      go_simp
      go_wp2_with (go_at_call 12; refine (plain4_calls _ f.ins _ (HC.out _ hSq1).2.2.1 HFO.out.li).mono ?_; rintro e yq4 ⟨v1, rfl, hO1, bq5⟩; obtain ⟨a1, n1, c1, rfl⟩ := hO1.sliceM; have HV1 := Lib.hid (hO1.weakR hlo); clear hO1)
      have hHq6 := Lib.hid (hHq2.out.below bq5)
      have hHq7 := Lib.hid (hHq3.out.below bq5)
      refine hK.out _ _ (hSq1.trans (bq5.mono (Nat.le_trans (Nat.le_of_eq HBS.out) hSq1.size))) (fun hSq8 => ?_)
      clear hK K hSq1 bq5
      clear hlo
      refine wpAnyH_ready (rs := [12]) (by kernel_rfl) (by simp) ?_
      refine AllReadyH.cons rfl (fun K hK => ?_) AllReadyH.nil
      have hlo : base ≤ (yq4).heap.size := Nat.le_trans (Nat.le_of_eq HBS.out) hSq8.size
      go_simp
      go_wp2_with (go_at_call 12; refine (plain4_calls _ f.outs _ (HC.out _ hSq8).2.2.2 HFO.out.lo).mono ?_; rintro e yq9 ⟨v2, rfl, hO2, bq10⟩; obtain ⟨a2, n2, c2, rfl⟩ := hO2.sliceM; have HV2 := Lib.hid (hO2.weakR hlo); clear hO2)
      have hHq11 := Lib.hid (hHq6.out.below bq10)
      have hHq12 := Lib.hid (hHq7.out.below bq10)
      have hHq13 := Lib.hid (HV1.out.below bq10)
      refine hK.out _ _ (hSq8.trans (bq10.mono (Nat.le_trans (Nat.le_of_eq HBS.out) hSq8.size))) (fun hSq14 => ?_)
      clear hK K hSq8 bq10
      clear hlo
      refine wpAnyH_take (i := 13) rfl (by kernel_rfl) (by kernel_rfl) (by kernel_rfl) (fun _ _ _ h => h) (yieldsIf_build (by rfl) 61 #[(0, .tmp 25), (1, .tmp 31)] rfl #[Value.slice a1 n1 c1, Value.slice a2 n2 c2] (by kernel_rfl)) hSq14 ?_
      simp only [Act.put, List.getElem_toArray, List.getElem_cons_zero, List.getElem_cons_succ, List.setIfInBounds_toArray, List.set_cons_zero, List.set_cons_succ]
      refine wpAnyH_ready (rs := [14]) (by kernel_rfl) (by simp) ?_
      refine AllReadyH.cons rfl (fun K hK => ?_) AllReadyH.nil
      go_simp
      have hlo : base ≤ (yq9).heap.size := Nat.le_trans (Nat.le_of_eq HBS.out) hSq14.size
      go_wp2_with (go_at_call 23; refine (RefNote_calls _ _ _ f ms base _ hHq11.out hHq13.out HV2.out HFO.out HMS.out.ok (Nat.le_trans HMS.out.len (by omega)) hlo).mono ?_; rintro e yq15 ⟨v4, rfl, hR4, hF4, hB4⟩)
      obtain ⟨a4, n4, c4, rfl, hn4⟩ := hR4.sliceM
      have HN4 := Lib.hid hn4
      have HR4 := Lib.hid hR4
      have HBI4 := Lib.hid (hHq12.out.frm hF4 (by decide) ⟨id, id, id⟩)
      refine hK.out _ _ (hSq14.trans hB4) (fun hSq17 => ?_)
      clear hK K hSq14 hB4 hF4 hR4 hn4 hlo hHq11 hHq12 hHq13 HV2
      refine wpAnyH_take (i := 15) (v := Value.tuple #[Value.slice a4 n4 c4, Value.int .i64 (noteE f)]) rfl (by kernel_rfl) (by kernel_rfl) (by kernel_rfl) (fun _ _ _ h => h) (Or.inl ⟨by rfl, fun x hx => by go_simp⟩) hSq17 ?_
      simp only [Act.put, List.getElem_toArray, List.getElem_cons_zero, List.getElem_cons_succ, List.setIfInBounds_toArray, List.set_cons_zero, List.set_cons_succ]
      refine wpAnyH_take (i := 16) (v := Value.slice a4 n4 c4) rfl (by kernel_rfl) (by kernel_rfl) (by kernel_rfl) (fun _ _ _ h => h) (Or.inl ⟨by rfl, fun x hx => by go_simp⟩) hSq17 ?_
      simp only [Act.put, List.getElem_toArray, List.getElem_cons_zero, List.getElem_cons_succ, List.setIfInBounds_toArray, List.set_cons_zero, List.set_cons_succ]
      refine wpAnyH_take (i := 17) (v := Value.int .i64 (noteE f)) rfl (by kernel_rfl) (by kernel_rfl) (by kernel_rfl) (fun _ _ _ h => h) (Or.inl ⟨by rfl, fun x hx => by go_simp⟩) hSq17 ?_
      simp only [Act.put, List.getElem_toArray, List.getElem_cons_zero, List.getElem_cons_succ, List.setIfInBounds_toArray, List.set_cons_zero, List.set_cons_succ]
      refine wpAnyH_ready (rs := [18]) (by kernel_rfl) (by simp) ?_
      refine AllReadyH.cons rfl (fun K hK => ?_) AllReadyH.nil
      go_simp
      refine hK.out _ _ hSq17 (fun hSq18 => ?_)
      clear hK K hSq17
      refine wpAnyH_ready (rs := [19]) (by kernel_rfl) (by simp) ?_
      refine AllReadyH.cons rfl (fun K hK => ?_) AllReadyH.nil
      go_simp
      refine hK.out _ _ hSq18 (fun hSq19 => ?_)
      clear hK K hSq18
      refine wpAnyH_done (by kernel_rfl) ?_ _
      have hB5 := hSq19
      clear hSq19
      obtain ⟨⟨fvb, hkb, -⟩, -⟩ := id HBI4.out
      clear hkb
      have hBW : Hid (B ≤ yq15.heap.size) := HBB.out.2 _ hB5
      have HXY : Hid (∀ w', Below B yq15 w' → HashesAt w' (.slice xao p xc) f.ins ∧ HashesAt w' (.slice yao q yc) f.outs) := fun w' bx => (HC.out w' (hB5.trans (bx.mono HBB.out.1))).2.2
      obtain ⟨E, hE⟩ : ∃ E, E = noteE f := ⟨_, rfl⟩
      obtain ⟨ms2, hms2⟩ : ∃ ms2, ms2 = noteT ms f := ⟨_, rfl⟩
      have HE := Lib.hid hE
      have HMS2 := Lib.hid hms2
      rw [← hE]
      rw [← hms2] at HR4 HN4 HNX
      clear hE hms2
      have hr9 := Lib.hid (HIX.out _ hB5)
      by_cases ho : f.outs = []
      · have hEE : Hid (E = 1) := by show _ = _; rw [HE.out]; exact (noteT_empty ms f ho).2
        have hTT : Hid (ms2 = ms) := by show _ = _; rw [HMS2.out]; exact (noteT_empty ms f ho).1
        have HO := Lib.hid ho
        clear ho
        rw [hEE.out]
        go_wp2_with ((with_reducible show wpList _ _ _ (⟨some 43, _, _, _, _, _⟩ :: _) _ _); refine wpList_if (by rfl) (wp_load_mid 44 (.tmp 42) rfl g (o + k * 2) (by rfl) [.slice xao p xc, .slice yao q yc] _ hr9.out Try.underlying44 rfl Try.sizeFact ?_))
        refine (NoteEmpty_calls _ _ _ f yq15 (HXY.out _ (Below.refl _ _)).2 HO.out ⟨_, _, _, rfl⟩).mono ?_
        rintro e w6 ⟨rfl, b6⟩
        have HB6 : Hid (Below base w w6) := hB5.trans (b6.mono (Nat.le_trans (Nat.le_of_eq HBS.out) hB5.size))
        have HR6 : Hid (RFactsOwn w6 base (.slice a4 n4 c4) ms2) := HR4.out.below b6
        have HBI6 : Hid (BookIs w6 B b sm nm dm ms2 (fun _ => none)) := by show BookIs _ _ _ _ _ _ _ _; rw [hTT.out]; exact HBI4.out.below b6
        clear b6
        go_wp2_with fail
        refine (Len_calls _ _ _ _ _ _ _ _ HBI6.out).mono ?_
        rintro e ww ⟨rfl, hww⟩
        subst hww
        rw [← HN4.out]
        go_wp2_with fail
        go_roundw
        case rel => exact ⟨k + 1, by omega, by go_num, rfl, by rw [HNX.out]; exact HR6, by rw [HNX.out]; exact HBI6, HB6⟩
        case measure => simp [intOf]; omega
      · have hEE : Hid (E = 0) := by show _ = _; rw [HE.out]; exact noteE_ok f ho
        have HO := Lib.hid ho
        clear ho
        by_cases hm : f ∈ ms
        · have hTT : Hid (ms2 = ms) := by show _ = _; rw [HMS2.out]; exact noteT_mem ms f hm
          have HM := Lib.hid hm
          clear hm
          rw [hEE.out]
          go_wp2_with ((with_reducible show wpList _ _ _ (⟨some 43, _, _, _, _, _⟩ :: _) _ _); refine wpList_if (by rfl) (wp_load_mid 44 (.tmp 42) rfl g (o + k * 2) (by rfl) [.slice xao p xc, .slice yao q yc] _ hr9.out Try.underlying44 rfl Try.sizeFact ?_))
          refine (NoteSeen_calls _ _ f B b sm nm dm ms _ yq15 HBI4.out (fun w' _ bx => HXY.out w' bx) HFO.out HMS.out.ok HO.out (Nat.lt_of_le_of_lt HMS.out.len (by omega)) (Nat.le_trans HMS.out.sum (by omega)) hBW.out HM.out).mono ?_
          rintro e w6 ⟨rfl, b6⟩
          have HB6 : Hid (Below base w w6) := hB5.trans (b6.mono (Nat.le_trans (Nat.le_of_eq HBS.out) hB5.size))
          have HR6 : Hid (RFactsOwn w6 base (.slice a4 n4 c4) ms2) := HR4.out.below b6
          have HBI6 : Hid (BookIs w6 B b sm nm dm ms2 (fun _ => none)) := by show BookIs _ _ _ _ _ _ _ _; rw [hTT.out]; exact HBI4.out.below b6
          clear b6
          go_wp2_with fail
          refine (Len_calls _ _ _ _ _ _ _ _ HBI6.out).mono ?_
          rintro e ww ⟨rfl, hww⟩
          subst hww
          rw [← HN4.out]
          go_wp2_with fail
          go_roundw
          case rel => exact ⟨k + 1, by omega, by go_num, rfl, by rw [HNX.out]; exact HR6, by rw [HNX.out]; exact HBI6, HB6⟩
          case measure => simp [intOf]; omega
        · have hTT : Hid (ms2 = ms ++ [f]) := by show _ = _; rw [HMS2.out]; exact noteT_new ms f hm HO.out
          have HM := Lib.hid hm
          clear hm
          rw [hEE.out]
          go_wp2_with ((with_reducible show wpList _ _ _ (⟨some 43, _, _, _, _, _⟩ :: _) _ _); refine wpList_if (by rfl) (wp_load_mid 44 (.tmp 42) rfl g (o + k * 2) (by rfl) [.slice xao p xc, .slice yao q yc] _ hr9.out Try.underlying44 rfl Try.sizeFact ?_))
          refine (NoteNew_calls _ _ f B b sm nm dm ms _ yq15 HBI4.out (fun w' _ bx => HXY.out w' bx) HFO.out HMS.out.ok HO.out (Nat.lt_of_le_of_lt HMS.out.len (by omega)) (Nat.le_trans HMS.out.sum (by omega)) hBW.out HM.out).mono ?_
          rintro e w6 ⟨rfl, hbi6, hf6, b6⟩
          have HB6 : Hid (Below base w w6) := hB5.trans (b6.mono HBB.out.1)
          have HR6 : Hid (RFactsOwn w6 base (.slice a4 n4 c4) ms2) := HR4.out.frm hf6 (by unfold NT; decide) (by unfold NT; decide)
          have HBI6 : Hid (BookIs w6 B b sm nm dm ms2 (fun _ => none)) := by show BookIs _ _ _ _ _ _ _ _; rw [hTT.out]; exact hbi6
          clear b6 hbi6 hf6
          go_wp2_with fail
          refine (Len_calls _ _ _ _ _ _ _ _ HBI6.out).mono ?_
          rintro e ww ⟨rfl, hww⟩
          subst hww
          rw [← HN4.out]
          go_wp2_with fail
          go_roundw
          case rel => exact ⟨k + 1, by omega, by go_num, rfl, by rw [HNX.out]; exact HR6, by rw [HNX.out]; exact HBI6, HB6⟩
          case measure => simp [intOf]; omega
    · obtain rfl : n = k := by omega
      have HE : Hid (bookT (fs.take n) = bookT fs) := by show _ = _; rw [HN.out, List.take_length]
      have HR2 : Hid (RFactsOwn wr base (.slice mao mn mc) (bookT fs)) := by show RFactsOwn _ _ _ _; rw [← HE.out]; exact HR.out
      have HBI2 : Hid (BookIs wr B b sm nm dm (bookT fs) (fun _ => none)) := by show BookIs _ _ _ _ _ _ _ _; rw [← HE.out]; exact HBI.out
      clear HR HBI
      go_wp2_with fail
      go_returns
      exact .mk HBI2.out HR2.out HBB.out.1 (HBB.out.2 _ HB.out) HB.out
end Go.Proofs.Ytjjmcogdohnhjaa
