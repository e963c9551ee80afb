/-
  slices.SortFunc at digests by sha.Cmp, off the shelf.
-/
import Derived.Shelf.SlSortCmp.NoneTotal
import Derived.Ground.SlsfProg
import Derived.Test.YtjlpdbaknhbgdaaShaCmp
import Derived.Test.YtjlpdbaknhbgdaaBookPut
set_option linter.unusedSimpArgs false
set_option linter.unusedVariables false
namespace Go.Proofs
open Go.Shelf Go.Lib
shelf_lay_g SlLaysF0.n6 Slsf 6 at Try 37 as Try.sortHs
end Go.Proofs
namespace Go.Proofs.Ytjlpdbaknhbgdaa
open Go.RowKit Go.Sort

abbrev H32 := { l : List UInt8 // l.length = 32 }
instance : Inhabited H32 := ⟨⟨List.replicate 32 0, by simp⟩⟩
def encH (x : H32) : List Value := x.1.map bv
theorem encH_len (x : H32) : (encH x).length = 32 := by simp [encH, x.2]
theorem encH_one (x : H32) : ∀ v ∈ encH x, v.oneCell' = true := bs_one x.1
def cfH (x y : H32) : Int := cmpT x.1 y.1
theorem ltH (x y : H32) : ltOf cfH x y = decide (cmpT x.1 y.1 < 0) := rfl
theorem ltH_total (x y : H32) (h1 : ltOf cfH x y = false) (h2 : ltOf cfH y x = false) : x = y := by
  rw [ltH, decide_eq_false_iff_not] at h1 h2
  rw [cmpT_swap] at h2
  exact Subtype.ext (cmpT_eq x.1 y.1 (by rw [x.2, y.2]) (by omega))
theorem ltH_swo : SWO (ltOf cfH) where
  irrefl x := by rw [ltH, cmpT_self]; rfl
  trans x y z h1 h2 := by
    rw [ltH, decide_eq_true_eq] at *
    exact cmpT_trans _ _ _ (by rw [x.2, y.2]) (by rw [y.2, z.2]) h1 h2
  ntrans x y z h1 h2 := by
    rw [ltH, decide_eq_false_iff_not] at *
    intro h
    have e1 := cmpT_swap x.1 y.1
    by_cases e : cmpT y.1 x.1 < 0
    · exact h2 (cmpT_trans _ _ _ (by rw [x.2, y.2]) (by rw [x.2, z.2]) e h)
    · have : x.1 = y.1 := cmpT_eq _ _ (by rw [x.2, y.2]) (by omega)
      rw [← this] at h2
      exact h2 h
theorem H32.lift : ∀ (l : List HsT), (∀ h ∈ l, h.length = 32) → ∃ D : List H32, D.map (·.1) = l
  | [], _ => ⟨[], rfl⟩
  | x :: l, h => by
    obtain ⟨D, hD⟩ := H32.lift l (fun y hy => h y (List.mem_cons_of_mem _ hy))
    exact ⟨⟨x, h x List.mem_cons_self⟩ :: D, by rw [List.map_cons, hD]⟩
theorem holdsH_own {w : World} {g c n : Nat} {D : List H32} {base : Nat} {e : TypeId} (h : w.ownsRow base e 32 (.slice (some ⟨g, 0, none⟩) n c) n ((D.map (·.1)).flatMap (·.map bv))) (hn : n = D.length) : HoldsK encH 32 w g 0 D.toArray := by
  have hl : ∀ s ∈ D.map (·.1), s.length = 32 := fun s hs => by
    obtain ⟨x, _, rfl⟩ := List.mem_map.1 hs
    exact x.2
  have hs := HashesAt.own h hl (by rw [List.length_map, hn])
  intro j hj
  have hj' : j < D.length * 32 := by simpa using hj
  have hi : j / 32 < D.length := by omega
  have hr := hs.range' (j / 32) (D[j / 32].1) (by rw [List.getElem?_map, List.getElem?_eq_getElem hi]; rfl)
  have h32 := D[j / 32].2
  rw [get_flatK _ _ _ _ (by simpa using hj')]
  refine ⟨?_, ?_⟩
  · have h1 := hr (j % 32) ((encH D[j / 32])[j % 32]'(by rw [encH_len]; omega)) (List.getElem?_eq_getElem _)
    rw [show 0 + j / 32 * 32 + j % 32 = 0 + j by omega] at h1
    rw [h1]
    have e : D.toArray[j / 32]! = D[j / 32] := by rw [getElem!_pos _ _ (by simpa using hi)]; simp
    rw [e, getElem!_pos _ _ (by rw [encH_len]; omega)]
    rfl
  · rcases h.2 with ⟨h0, _⟩ | ⟨g', cap, cur, he, _, hg, _⟩
    · simp at h0
    · simp only [Value.slice.injEq, Option.some.injEq, Addr.mk.injEq] at he
      obtain ⟨⟨rfl, _⟩, _, rfl⟩ := he
      simp [World.frozen?, hg]
theorem holdsH_at {w : World} {g c : Nat} {D : List H32} (h : HoldsK encH 32 w g 0 D.toArray) (hc : D.length ≤ c) (hg : g < w.heap.size) : HashesAt w (.slice (some ⟨g, 0, none⟩) D.length c) (D.map (·.1)) := by
  have hl : ∀ s ∈ D.map (·.1), s.length = 32 := fun s hs => by
    obtain ⟨x, _, rfl⟩ := List.mem_map.1 hs
    exact x.2
  refine ⟨hl, .inr ⟨g, 0, c, by rw [List.length_map], by rw [List.length_map]; exact hc, hg, fun j u hj => ?_⟩⟩
  have hflat : ((D.map (·.1)).flatMap (·.map bv)).length = D.length * 32 := by
    clear h hc hg hj hl
    induction D with
    | nil => rfl
    | cons s t ih => rw [List.map_cons, List.flatMap_cons, List.length_append, List.length_map, s.2, ih, List.length_cons]; omega
  have hlt : j < D.length * 32 := by have := (List.getElem?_eq_some_iff.1 hj).1; omega
  have hi : j / 32 < D.length := by omega
  have h1 := (HoldsK.cell h (i := j / 32) (c := j % 32) (by simpa using hi) (by omega)).1
  rw [show 0 + j / 32 * 32 + j % 32 = 0 + j by omega] at h1
  rw [h1]
  have e : D.toArray[j / 32]! = D[j / 32] := by rw [getElem!_pos _ _ (by simpa using hi)]; simp
  have h2 := hashes_at (D.map (·.1)) (j / 32) (D[j / 32].1) (j % 32) hl (by rw [List.getElem?_map, List.getElem?_eq_getElem hi]; rfl) (by omega)
  rw [show 32 * (j / 32) + j % 32 = j by omega, hj] at h2
  rw [e, getElem!_pos _ _ (by rw [encH_len]; omega), h2]
  exact (List.getElem?_eq_getElem _).symm
theorem putRowH_grown {α : Type} [Inhabited α] (enc : α → Value) (w : World) (g off : Nat) (d : Array α) : w.grownBy (putRow enc w g off d) (some g) := by
  refine ⟨rfl, rfl, rfl, by simp [putRow, mapBlock], fun k hk hr => ?_⟩
  have hne : g ≠ k := fun e => hr (by rw [e])
  simp only [putRow, mapBlock]
  rw [Array.getElem?_modify, if_neg hne]
theorem aheadH_grown (w : World) (n : Nat) (row : Option Nat) : w.grownBy (Sort.ahead w n) row := ⟨rfl, rfl, rfl, Nat.le_refl _, fun _ _ _ => rfl⟩
theorem growH_grown (w : World) (os : Array Obj) (row : Option Nat) : w.grownBy (Sort.grow w os) row := ⟨rfl, rfl, rfl, by simp [Sort.grow], fun k hk _ => by simp [Sort.grow, Array.getElem?_append_left hk]⟩
/-- slices.SortFunc(l, sha.Cmp). -/
theorem Sort_calls (base : Nat) (v : Value) (l : List HsT) (w : World) (h : HashOwn w base 26 v l) (hn : l.length ≤ 1000000) :
    Calls Try.prog 37 #[v, .func (.func 38) #[] #[]] w fun e w' => e = .returned (.tuple #[]) ∧ ∃ R, R.Perm l ∧ (l.Nodup → Rises R) ∧ HashesAt w' v R ∧ w.grownBy w' v.ownBlock := by
  rcases h.2.2 with ⟨rfl, h0⟩ | ⟨g, cap, cur, rfl, hb, hg, h1, h2, h3, h4⟩
  · have hcall := AnyF.slices_SortFunc_none Try.sortHs none 0 (.func (.func 38) #[] #[]) w
    change Calls Try.prog 37 _ _ _ at hcall
    refine hcall.mono ?_
    rintro e w' ⟨rfl, rfl⟩
    obtain rfl := List.eq_nil_of_length_eq_zero h0
    exact ⟨rfl, [], List.Perm.refl _, fun _ => List.Pairwise.nil, ⟨fun x hx => (by cases hx), .inl ⟨rfl, none, rfl⟩⟩, World.grownBy.refl _ _⟩
  · obtain ⟨D, hD⟩ := H32.lift l h.1
    have hlen : l.length = D.length := by rw [← hD, List.length_map]
    have hH := holdsH_own (D := D) (by rw [hD]; exact h.2) hlen
    have hgl := lt_of_block hg
    have eg : ∀ args w, (callFunc 38 args).run Try.prog w = .ok (.enter 38 args) w := enters_of Try.func38 (by kernel_rfl) rfl
    have hcmp : CmpLays Try.prog 38 #[] encH 32 cfH g 0 D.toArray.size w := fun m os dk _ x y => Cmp_calls x.1 y.1 x.2 y.2 _
    have hcall := AnyQ.slices_SortFunc_total Try.sortHs 32 Try.isAgg26 Try.sizeOf26 encH encH_len encH_one cfH ltH_swo 38 #[] g 0 cap D.toArray w eg hcmp hH hgl (by simp; omega) ltH_total
    change Calls Try.prog 37 _ _ _ at hcall
    rw [List.size_toArray, ← hlen] at hcall
    refine hcall.mono ?_
    rintro e w' ⟨rfl, n, os, rfl⟩
    have hle : ∀ x y : H32, (!(ltOf cfH) y x) = true ↔ ¬ cmpT y.1 x.1 < 0 := fun x y => by rw [ltH]; simp
    obtain ⟨R, hR⟩ : ∃ R, R = D.mergeSort fun x y => !(ltOf cfH) y x := ⟨_, rfl⟩
    have hp : R.Perm D := by rw [hR]; exact List.mergeSort_perm _ _
    have hs : R.Pairwise fun x y => (!(ltOf cfH) y x) = true := by
      rw [hR]
      refine List.pairwise_mergeSort (fun x y z a b => ?_) (fun x y => ?_) D
      · have := ltH_swo.ntrans z y x (by simpa using b) (by simpa using a)
        simpa using this
      · rw [ltH, ltH]
        have e1 := cmpT_swap x.1 y.1
        simp
        omega
    have hRl : R.length = l.length := by rw [hlen]; exact hp.length_eq
    have hHR : HoldsK encH 32 (sortWorldK encH 32 w g 0 n R.toArray os) g 0 R.toArray := holdsK_grow encH 32 _ os g 0 R.toArray (by rw [size_putRowK]; exact hgl) (holdsK_putRowK encH 32 _ g 0 D.toArray R.toArray (holdsK_ahead encH 32 w n g 0 D.toArray hH) (by simp [hp.length_eq]))
    have hgr : w.grownBy (sortWorldK encH 32 w g 0 n R.toArray os) (some g) := grown_trans (grown_trans (aheadH_grown w n _) (putRowH_grown _ _ _ _ _)) (growH_grown _ _ _)
    rw [← hR]
    refine ⟨rfl, R.map (·.1), by rw [← hD]; exact hp.map _, fun hnd => ?_, ?_, hgr⟩
    · have hnd2 : R.Nodup := hp.nodup_iff.2 (by
        rw [← hD] at hnd
        exact List.Pairwise.of_map _ (fun a b hab e => hab (by rw [e])) hnd)
      show List.Pairwise _ _
      rw [List.pairwise_map]
      refine (hs.and hnd2).imp fun {x y} hxy => ?_
      have e1 := (hle x y).1 hxy.1
      have e2 := cmpT_swap x.1 y.1
      have e3 : cmpT x.1 y.1 ≠ 0 := fun e => hxy.2 (Subtype.ext (cmpT_eq _ _ (by rw [x.2, y.2]) e))
      omega
    · rw [← hRl]
      exact holdsH_at hHR (by rw [hRl]; exact h1) (Nat.lt_of_lt_of_le hgl hgr.size)
end Go.Proofs.Ytjlpdbaknhbgdaa
