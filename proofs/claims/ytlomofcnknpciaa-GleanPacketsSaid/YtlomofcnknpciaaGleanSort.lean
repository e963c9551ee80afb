/-
  slices.SortFunc(l, sha.Cmp) of any digests: sorted, the row still one's own.
-/
import Derived.Test.YtlomofcnknpciaaBookSort
import Derived.Test.YtlomofcnknpciaaBookRep
import Derived.Test.YtlomofcnknpciaaOwnSet
set_option linter.unusedSimpArgs false
set_option linter.unusedVariables false
namespace Go.Proofs.Ytlomofcnknpciaa
open Go.RowKit Go.Sort

theorem own_of_cells {w : World} {base g n c size : Nat} {e : TypeId} {cur : Array Value} {xs : List Value} (hg : w.heap[g]? = some (.cells cur e (0, 0))) (hb : base ≤ g) (hn : n ≤ c) (hc : c ≤ maxLen) (hs : cur.size = c * size) (hx : xs.length = n * size) (h : ∀ j u, xs[j]? = some u → w.cell? ⟨g, j, none⟩ = some u) : w.ownsRow base e size (.slice (some ⟨g, 0, none⟩) n c) n xs := by
  refine ⟨hx, .inr ⟨g, c, cur, rfl, hb, hg, hn, hc, hs, ?_⟩⟩
  have hle : n * size ≤ c * size := Nat.mul_le_mul_right _ hn
  refine List.ext_getElem (by rw [List.length_take, hx]; simp; omega) fun j h1 h2 => ?_
  have h3 := h j xs[j] (List.getElem?_eq_getElem h2)
  have hj : j < cur.size := by rw [hx] at h2; omega
  simp only [World.cell?, hg] at h3
  rw [List.getElem_take]
  have h4 : cur[j]? = some xs[j] := by simpa using h3
  rw [Array.getElem?_eq_getElem hj] at h4
  simpa using Option.some.inj h4
theorem SortB_calls (base : Nat) (v : Value) (l : List HsT) (w : World) (h : HashOwn w base 23 v l) (hn : l.length ≤ 1000000) :
    Calls Try.prog 101 #[v, .func (.func 85) #[] #[]] w fun e w' => e = .returned (.tuple #[]) ∧ ∃ R, R.Perm l ∧ (R.Pairwise fun x y => ¬ cmpT y x < 0) ∧ HashOwn w' base 23 v R ∧ w.grownBy w' v.ownBlock := by
  rcases h.2.2 with ⟨rfl, h0⟩ | ⟨g, cap, cur, rfl, hb, hg, h1, h2, h3, h4⟩
  · have hcall := AnyF.slices_SortFunc_none Try.sortHs none 0 (.func (.func 85) #[] #[]) w
    change Calls Try.prog 101 _ _ _ at hcall
    refine hcall.mono ?_
    rintro e w' ⟨rfl, rfl⟩
    obtain rfl := List.eq_nil_of_length_eq_zero h0
    exact ⟨rfl, [], List.Perm.refl _, List.Pairwise.nil, HashOwn.nil _ _ _, World.grownBy.refl _ _⟩
  · obtain ⟨D, hD⟩ := H32.lift l h.1
    have hlen : l.length = D.length := by rw [← hD, List.length_map]
    have hH := holdsH_own (D := D) (by rw [hD]; exact h.2) hlen
    have hgl := lt_of_block hg
    have eg : ∀ args w, (callFunc 85 args).run Try.prog w = .ok (.enter 85 args) w := enters_of Try.func85 (by kernel_rfl) rfl
    have hcmp : CmpLays Try.prog 85 #[] encH 32 cfH g 0 D.toArray.size w := fun m os dk _ x y => Cmp_calls x.1 y.1 x.2 y.2 _
    have hcall := AnyQ.slices_SortFunc_total Try.sortHs 32 Try.isAgg23 Try.sizeOf23 encH encH_len encH_one cfH ltH_swo 85 #[] g 0 cap D.toArray w eg hcmp hH hgl (by simp; omega) ltH_total
    change Calls Try.prog 101 _ _ _ at hcall
    rw [List.size_toArray, ← hlen] at hcall
    refine hcall.mono ?_
    rintro e w' ⟨rfl, n, os, rfl⟩
    have hle : ∀ x y : H32, (!(ltOf cfH) y x) = true ↔ ¬ cmpT y.1 x.1 < 0 := fun x y => by rw [ltH]; simp
    obtain ⟨R, hR⟩ : ∃ R, R = D.mergeSort fun x y => !(ltOf cfH) y x := ⟨_, rfl⟩
    have hp : R.Perm D := by rw [hR]; exact List.mergeSort_perm _ _
    have hs : R.Pairwise fun x y => (!(ltOf cfH) y x) = true := by
      rw [hR]
      refine List.pairwise_mergeSort (fun x y z a b => ?_) (fun x y => ?_) D
      · have := ltH_swo.ntrans z y x (by simpa using b) (by simpa using a)
        simpa using this
      · rw [ltH, ltH]
        have e1 := cmpT_swap x.1 y.1
        simp
        omega
    have hRl : R.length = l.length := by rw [hlen]; exact hp.length_eq
    have hHR : HoldsK encH 32 (sortWorldK encH 32 w g 0 n R.toArray os) g 0 R.toArray := holdsK_grow encH 32 _ os g 0 R.toArray (by rw [size_putRowK]; exact hgl) (holdsK_putRowK encH 32 _ g 0 D.toArray R.toArray (holdsK_ahead encH 32 w n g 0 D.toArray hH) (by simp [hp.length_eq]))
    have hgr : w.grownBy (sortWorldK encH 32 w g 0 n R.toArray os) (some g) := grown_trans (grown_trans (aheadH_grown w n _) (putRowH_grown _ _ _ _ _)) (growH_grown _ _ _)
    rw [← hR]
    have hat := holdsH_at hHR (by rw [hRl]; exact h1) (Nat.lt_of_lt_of_le hgl hgr.size)
    have h32 : ∀ x ∈ R.map (·.1), x.length = 32 := hat.1
    refine ⟨rfl, R.map (·.1), by rw [← hD]; exact hp.map _, ?_, ⟨h32, ?_⟩, hgr⟩
    · rw [List.pairwise_map]
      exact hs.imp fun {x y} hxy => (hle x y).1 hxy
    · have hG : ∃ cur', (sortWorldK encH 32 w g 0 n R.toArray os).heap[g]? = some (.cells cur' 23 (0, 0)) ∧ cur'.size = cur.size := by
        refine ⟨putCells id 0 (flatK encH 32 R.toArray) cur, ?_, by simp [putCells]⟩
        simp only [sortWorldK, putRowK, Sort.grow, putRow, mapBlock, Sort.ahead]
        rw [Array.getElem?_append_left (by simp; exact hgl), Array.getElem?_modify, if_pos rfl, hg]
        rfl
      obtain ⟨cur', hG1, hG2⟩ := hG
      rw [List.length_map, hRl]
      refine own_of_cells hG1 hb h1 h2 (by rw [hG2, h3]) (by rw [flatMap_len32 _ h32, List.length_map, hRl]) fun j u hj => ?_
      rcases hat.2 with ⟨_, ao, e0⟩ | ⟨g', o', c', e0, _, _, hc⟩
      · injection e0 with e1 e2 e3
        have : R.map (·.1) = [] := List.eq_nil_of_length_eq_zero (by rw [List.length_map]; exact e2)
        rw [this] at hj
        simp at hj
      · injection e0 with e1 e2 e3
        simp only [Option.some.injEq, Addr.mk.injEq] at e1
        obtain ⟨rfl, rfl, _⟩ := e1
        have := hc j u hj
        rwa [Nat.zero_add] at this
end Go.Proofs.Ytlomofcnknpciaa
