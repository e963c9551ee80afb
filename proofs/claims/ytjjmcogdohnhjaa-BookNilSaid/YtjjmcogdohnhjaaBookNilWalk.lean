/-
  BookNil: the walk.
-/
import Derived.Test.YtjjmcogdohnhjaaBookFollowsWalk
import Derived.WalkLawsBesides
import Derived.Outline
import Derived.Handy
set_option linter.unusedSimpArgs false
set_option linter.unusedVariables false
namespace Go.Proofs.Ytjjmcogdohnhjaa
open Go.RowKit

theorem NamedNil2_calls (s : List UInt8) (w : World) :
    Calls Try.prog 20 #[.pointer none, .string (str s)] w fun e w' => ∃ z : HsT, z.length = 32 ∧ e = .returned (.tuple #[hashEnc z, .bool false]) ∧ Below w.heap.size w w' :=
  (NamedNil_calls s w).mono fun e w' ⟨h1, h2⟩ => ⟨_, by simp, h1, h2⟩
theorem fewNil : Fews [] := by constructor <;> simp
set_option maxHeartbeats 32000000 in
set_option maxRecDepth 100000 in
theorem walkBookNil {w0 : World} (x y : Value) (f : FactT) (hx : HashesAt w0 x f.ins) (hy : HashesAt w0 y f.outs) (hb : FBound f) (name : List UInt8) (hnm : name.length ≤ maxLen) (v1 : Value) (a : List HsT) (hA : HashesAt w0 v1 a) (ha : a.length ≤ maxLen) (w : World) (hw : w0 = w := by rfl) :
    Calls Try.prog 7 #[.agg #[x, y], .string (str name), v1] w fun e w' => e = .returned (.bool true) ∧ Below w.heap.size w w' := by
  subst hw
  obtain ⟨w, rfl⟩ : ∃ w : World, w = w0 := ⟨_, rfl⟩
  obtain ⟨base, hbase⟩ : ∃ base, base = w.heap.size := ⟨_, rfl⟩
  have HBS : Hid (base = w.heap.size) := hbase
  obtain ⟨ao, m, c, rfl, hm⟩ := hA.sliceM
  obtain ⟨xao, p, xc, rfl, hp⟩ := hx.sliceM
  obtain ⟨yao, q, yc, rfl, hq⟩ := hy.sliceM
  obtain ⟨hb1, hb2⟩ := hb
  rw [← hp] at hb1
  rw [← hq] at hb2
  unfold maxLen at ha hb1 hb2
  rw [← hm] at ha
  have HM := Lib.hid hm
  have HQ := Lib.hid hq
  have HA := Lib.hid hA
  have HX := Lib.hid hx
  have HY := Lib.hid hy
  clear hx hy hnm hA hm hp hq
  rw [← hbase]
  have hB0 := Below.refl base w
  by_cases hp60 : p ≤ 60
  · have hpb : decide ((p : Int) > 60) = false := by rw [decide_eq_false_iff_not]; omega
    by_cases hq60 : q ≤ 60
    · have hqb : decide ((q : Int) > 60) = false := by rw [decide_eq_false_iff_not]; omega
      by_cases hl : m ≤ 60
      · have hlb : decide ((m : Int) > 60) = false := by rw [decide_eq_false_iff_not]; omega
        have HAL : Hid (a.length ≤ 100000) := by show _ ≤ _; rw [← HM.out]; omega
        by_cases hq0 : q = 0
        · have HO : Hid (f.outs = []) := List.eq_nil_of_length_eq_zero (by rw [← HQ.out]; exact hq0)
          obtain rfl : 0 = q := hq0.symm
          simp only [Int.natCast_zero] at *
          go_enter Try.func7, Try.ntmps7
          go_wp2_with (first | ((with_reducible show wpList _ _ _ (⟨some 3, _, _, _, _, _⟩ :: _) _ _); refine wpList_boxA rfl 44 (.tmp 0) rfl #[.slice xao p xc, .slice yao 0 yc] (by rfl) ?_; intro wq82 bq83 nq84; have hCq85 := Lib.hid (HX.out.below bq83); have hCq86 := Lib.hid (HY.out.below bq83); have hCq87 := Lib.hid (HA.out.below bq83); have hBq88 := hB0.trans (bq83.mono (Nat.le_trans (Nat.le_of_eq HBS.out) hB0.size)); clear HX HY HA hB0; clear bq83) | ((with_reducible show wpList _ _ _ (⟨some 12, _, _, _, _, _⟩ :: _) _ _); refine wpList_load1 rfl 23 (.tmp 11) rfl (w.heap.size) 0 (by rfl) _ _ (nq84.cell 0 _ rfl) Try.underlying23 rfl ?_) | ((with_reducible show wpList _ _ _ (⟨some 17, _, _, _, _, _⟩ :: _) _ _); refine wpList_if (by rfl) (wp_load1 23 (.tmp 16) rfl (w.heap.size) 1 (by rfl) _ _ (nq84.cell 1 _ rfl) Try.underlying23 rfl ?_)) | ((with_reducible show wpList _ _ _ (⟨some 28, _, _, _, _, _⟩ :: _) _ _); refine wpList_load_mid rfl 44 (.tmp 3) rfl w.heap.size 0 (by rfl) [.slice xao p xc, .slice yao 0 yc] _ (blk_rangeP nq84) Try.underlying44 rfl Try.sizeFact ?_))
          have ltq91 : w.heap.size < wq82.heap.size := nq84.lt
          refine (NoteEmpty_calls _ _ _ f _ hCq86.out HO.out ⟨_, _, _, rfl⟩).mono ?_
          rintro e wq89 ⟨rfl, bq90⟩
          have hCq92 := Lib.hid (hCq85.out.below bq90)
          have hCq93 := Lib.hid (hCq86.out.below bq90)
          have hCq94 := Lib.hid (hCq87.out.below bq90)
          have hCq95 := nq84.below bq90 nq84.lt
          have hBq96 := hBq88.trans (bq90.mono (Nat.le_trans (Nat.le_of_eq HBS.out) hBq88.size))
          clear hCq85 hCq86 hCq87 nq84 hBq88
          clear bq90
          go_wp2_with ((with_reducible show wpList _ _ _ (⟨some 32, _, _, _, _, _⟩ :: _) _ _); refine wpList_buildCells rfl 39 #[(0, .const (.int .u8 1))] rfl (((dA 1).map bv).toArray) (by kernel_rfl) ?_)
          have ltq99 : w.heap.size < wq89.heap.size := hCq95.lt
          refine (NameNil_calls name (dA 1) (dA_len 1).out _).mono ?_
          rintro e wq97 ⟨rfl, bq98⟩
          have hCq100 := Lib.hid (hCq92.out.below bq98)
          have hCq101 := Lib.hid (hCq93.out.below bq98)
          have hCq102 := Lib.hid (hCq94.out.below bq98)
          have hCq103 := hCq95.below bq98 hCq95.lt
          have hBq104 := hBq96.trans (bq98.mono (Nat.le_trans (Nat.le_of_eq HBS.out) hBq96.size))
          clear hCq92 hCq93 hCq94 hCq95 hBq96
          clear bq98
          go_wp2_with fail
          have ltq107 : w.heap.size < wq97.heap.size := hCq103.lt
          refine (NamedNil2_calls name _).mono ?_
          rintro e wq105 ⟨z, hz, rfl, bq106⟩
          have hCq108 := Lib.hid (hCq100.out.below bq106)
          have hCq109 := Lib.hid (hCq101.out.below bq106)
          have hCq110 := Lib.hid (hCq102.out.below bq106)
          have hCq111 := hCq103.below bq106 hCq103.lt
          have hBq112 := hBq104.trans (bq106.mono (Nat.le_trans (Nat.le_of_eq HBS.out) hBq104.size))
          clear hCq100 hCq101 hCq102 hCq103 hBq104
          clear bq106
          have HZ := Lib.hid hz
          clear hz
          go_wp2_with (first | ((with_reducible show wpList _ _ _ (⟨some 9, _, _, _, _, _⟩ :: _) _ _); refine wpList_allocZ rfl 39 rfl _ Try.zeroHash ?_; intro wq113 hsq114 baq115 hNq116) | ((with_reducible show wpList _ _ _ (⟨none, Op.store _ (.tmp 9) _, _, _, _, _⟩ :: _) _ _); refine wpList_storeBlk rfl 39 (.tmp 9) (.tmp 38) rfl (wq105.heap.size) ((z.map bv).toArray) (by rfl) (by rfl) _ _ hNq116 (by rw [bv_size, HZ.out]; exact Try.sizeHash) (by rw [bv_size, HZ.out, Z32_size]) (bv_all _) ?_; intro wq117 hKq118 gq119; have bbq120 := below_new baq115 gq119 (Nat.le_refl _) baq115.size; have ltq121 : w.heap.size < wq105.heap.size := hCq111.lt; have hCq122 := Lib.hid (hCq108.out.below bbq120); have hCq123 := Lib.hid (hCq109.out.below bbq120); have hCq124 := Lib.hid (hCq110.out.below bbq120); have hCq125 := hCq111.below bbq120 hCq111.lt; have hBq126 := hBq112.trans (bbq120.mono (Nat.le_trans (Nat.le_of_eq HBS.out) hBq112.size)); clear hCq108 hCq109 hCq110 hCq111 hBq112; clear bbq120 baq115 hNq116 gq119 hsq114))
          have ltq129 : w.heap.size < wq117.heap.size := hCq125.lt
          have ltq130 : wq105.heap.size < wq117.heap.size := hKq118.lt
          refine (awake_calls _).mono ?_
          rintro e wq127 ⟨rfl, bq128⟩
          have hCq131 := Lib.hid (hCq122.out.below bq128)
          have hCq132 := Lib.hid (hCq123.out.below bq128)
          have hCq133 := Lib.hid (hCq124.out.below bq128)
          have hCq134 := hCq125.below bq128 hCq125.lt
          have hCq135 := hKq118.below bq128 hKq118.lt
          have hBq136 := hBq126.trans (bq128.mono (Nat.le_trans (Nat.le_of_eq HBS.out) hBq126.size))
          clear hCq122 hCq123 hCq124 hCq125 hKq118 hBq126
          clear bq128
          go_wp2_with ((with_reducible show wpList _ _ _ (⟨some 45, _, _, _, _, _⟩ :: _) _ _); refine wpList_if (by rfl) (wp_load1 23 (.tmp 44) rfl (w.heap.size) 1 (by rfl) _ _ (hCq134.cell 1 _ rfl) Try.underlying23 rfl ?_))
          refine (LenNil_calls _).mono ?_
          rintro e ww ⟨rfl, hww⟩
          have hww2 := hww.symm
          clear hww
          subst hww2
          go_wp2_with fail
          have ltq139 : w.heap.size < wq127.heap.size := hCq134.lt
          have ltq140 : wq105.heap.size < wq127.heap.size := hCq135.lt
          refine (Follows_gen _ _ a [] _ (knownNil_calls _ a _ hCq133.out (Nat.le_trans HAL.out (by omega)))).mono ?_
          rintro e wq137 ⟨v5, R, rfl, hR, hRi, hRm, hRl, bq138⟩
          have hCq141 := Lib.hid (hCq131.out.below bq138)
          have hCq142 := Lib.hid (hCq132.out.below bq138)
          have hCq143 := Lib.hid (hCq133.out.below bq138)
          have hCq144 := hCq134.below bq138 hCq134.lt
          have hCq145 := hCq135.below bq138 hCq135.lt
          have hBq146 := hBq136.trans (bq138.mono (Nat.le_trans (Nat.le_of_eq HBS.out) hBq136.size))
          clear hCq131 hCq132 hCq133 hCq134 hCq135 hBq136
          clear bq138
          have hHq147 := Lib.hid hR
          clear hR
          have HRI := Lib.hid hRi
          have HRM := Lib.hid hRm
          have HRL := Lib.hid hRl
          clear hRi hRm hRl
          go_wp2_with fail
          have ltq150 : w.heap.size < wq137.heap.size := hCq144.lt
          have ltq151 : wq105.heap.size < wq137.heap.size := hCq145.lt
          refine (plain4_calls _ R _ hHq147.out (Nat.le_trans HRL.out (by omega))).mono ?_
          rintro e wq148 ⟨v6, rfl, hP, bq149⟩
          have hCq152 := Lib.hid (hCq141.out.below bq149)
          have hCq153 := Lib.hid (hCq142.out.below bq149)
          have hCq154 := Lib.hid (hCq143.out.below bq149)
          have hCq155 := hCq144.below bq149 hCq144.lt
          have hCq156 := hCq145.below bq149 hCq145.lt
          have hCq157 := Lib.hid (hHq147.out.below bq149)
          have hBq158 := hBq146.trans (bq149.mono (Nat.le_trans (Nat.le_of_eq HBS.out) hBq146.size))
          clear hCq141 hCq142 hCq143 hCq144 hCq145 hHq147 hBq146
          clear bq149
          have hHq159 := Lib.hid hP
          clear hP
          go_wp2_with fail
          have ltq162 : w.heap.size < wq148.heap.size := hCq155.lt
          have ltq163 : wq105.heap.size < wq148.heap.size := hCq156.lt
          refine (plain4_calls _ a _ hCq154.out (Nat.le_trans HAL.out (by omega))).mono ?_
          rintro e wq160 ⟨v7, rfl, hQ, bq161⟩
          have hCq164 := Lib.hid (hCq152.out.below bq161)
          have hCq165 := Lib.hid (hCq153.out.below bq161)
          have hCq166 := Lib.hid (hCq154.out.below bq161)
          have hCq167 := hCq155.below bq161 hCq155.lt
          have hCq168 := hCq156.below bq161 hCq156.lt
          have hCq169 := Lib.hid (hCq157.out.below bq161)
          have hCq170 := Lib.hid (hHq159.out.below bq161)
          have hBq171 := hBq158.trans (bq161.mono (Nat.le_trans (Nat.le_of_eq HBS.out) hBq158.size))
          clear hCq152 hCq153 hCq154 hCq155 hCq156 hCq157 hHq159 hBq158
          clear bq161
          have hHq172 := Lib.hid hQ
          clear hQ
          go_wp2_with fail
          have ltq175 : w.heap.size < wq160.heap.size := hCq167.lt
          have ltq176 : wq105.heap.size < wq160.heap.size := hCq168.lt
          refine (RefFollows_noted _ _ a [] base _ (RFactsOwn.nil _ _) hHq172.out.at fewNil HAL.out).mono ?_
          rintro e wq173 ⟨v8, R2, rfl, hR2, hR2i, hR2m, bq174⟩
          have hCq177 := Lib.hid (hCq164.out.below bq174)
          have hCq178 := Lib.hid (hCq165.out.below bq174)
          have hCq179 := Lib.hid (hCq166.out.below bq174)
          have hCq180 := hCq167.below bq174 hCq167.lt
          have hCq181 := hCq168.below bq174 hCq168.lt
          have hCq182 := Lib.hid (hCq169.out.below bq174)
          have hCq183 := Lib.hid (hCq170.out.below bq174)
          have hCq184 := Lib.hid (hHq172.out.below bq174)
          have hBq185 := hBq171.trans (bq174.mono (Nat.le_trans (Nat.le_of_eq HBS.out) hBq171.size))
          clear hCq164 hCq165 hCq166 hCq167 hCq168 hCq169 hCq170 hHq172 hBq171
          clear bq174
          have hHq186 := Lib.hid hR2
          clear hR2
          have HR2I := Lib.hid hR2i
          have HR2M := Lib.hid hR2m
          clear hR2i hR2m
          have HSAME : Hid (decide (R = R2) = true) := decide_eq_true (fol_same HRI.out HR2I.out hCq183.out.1 hHq186.out.1 HRM.out HR2M.out)
          have HR2L : Hid (R2.length ≤ 103600) := fol_len HR2I.out HR2M.out fewNil HAL.out
          go_wp2_with fail
          have ltq189 : w.heap.size < wq173.heap.size := hCq180.lt
          have ltq190 : wq105.heap.size < wq173.heap.size := hCq181.lt
          refine (Alike_calls _ _ R R2 _ hCq183.out.at hHq186.out.at (Nat.le_trans HRL.out (by omega)) (Nat.le_trans HR2L.out (by omega))).mono ?_
          rintro e wq187 ⟨rfl, bq188⟩
          have hCq191 := Lib.hid (hCq177.out.below bq188)
          have hCq192 := Lib.hid (hCq178.out.below bq188)
          have hCq193 := Lib.hid (hCq179.out.below bq188)
          have hCq194 := hCq180.below bq188 hCq180.lt
          have hCq195 := hCq181.below bq188 hCq181.lt
          have hCq196 := Lib.hid (hCq182.out.below bq188)
          have hCq197 := Lib.hid (hCq183.out.below bq188)
          have hCq198 := Lib.hid (hCq184.out.below bq188)
          have hCq199 := Lib.hid (hHq186.out.below bq188)
          have hBq200 := hBq185.trans (bq188.mono (Nat.le_trans (Nat.le_of_eq HBS.out) hBq185.size))
          clear hCq177 hCq178 hCq179 hCq180 hCq181 hCq182 hCq183 hCq184 hHq186 hBq185
          clear bq188
          rw [HSAME.out]
          go_wp2_with fail
          go_returns
          exact ⟨rfl, hBq200⟩
        · have HO : Hid (f.outs ≠ []) := fun e => hq0 (by rw [HQ.out, e]; rfl)
          have hqp : decide ((q : Int) > 0) = true := by rw [decide_eq_true_eq]; omega
          have HQL : Hid (f.outs.length ≤ 1000000) := by show _ ≤ _; rw [← HQ.out]; omega
          go_enter Try.func7, Try.ntmps7
          go_wp2_with (first | ((with_reducible show wpList _ _ _ (⟨some 3, _, _, _, _, _⟩ :: _) _ _); refine wpList_boxA rfl 44 (.tmp 0) rfl #[.slice xao p xc, .slice yao q yc] (by rfl) ?_; intro wq201 bq202 nq203; have hCq204 := Lib.hid (HX.out.below bq202); have hCq205 := Lib.hid (HY.out.below bq202); have hCq206 := Lib.hid (HA.out.below bq202); have hBq207 := hB0.trans (bq202.mono (Nat.le_trans (Nat.le_of_eq HBS.out) hB0.size)); clear HX HY HA hB0; clear bq202) | ((with_reducible show wpList _ _ _ (⟨some 12, _, _, _, _, _⟩ :: _) _ _); refine wpList_load1 rfl 23 (.tmp 11) rfl (w.heap.size) 0 (by rfl) _ _ (nq203.cell 0 _ rfl) Try.underlying23 rfl ?_) | ((with_reducible show wpList _ _ _ (⟨some 17, _, _, _, _, _⟩ :: _) _ _); refine wpList_if (by rfl) (wp_load1 23 (.tmp 16) rfl (w.heap.size) 1 (by rfl) _ _ (nq203.cell 1 _ rfl) Try.underlying23 rfl ?_)) | ((with_reducible show wpList _ _ _ (⟨some 28, _, _, _, _, _⟩ :: _) _ _); refine wpList_load_mid rfl 44 (.tmp 3) rfl w.heap.size 0 (by rfl) [.slice xao p xc, .slice yao q yc] _ (blk_rangeP nq203) Try.underlying44 rfl Try.sizeFact ?_))
          have ltq210 : w.heap.size < wq201.heap.size := nq203.lt
          refine (NoteNil_calls4 _ _ f _ hCq205.out HO.out ⟨_, _, _, rfl⟩ HQL.out).mono ?_
          rintro e wq208 ⟨rfl, bq209⟩
          have hCq211 := Lib.hid (hCq204.out.below bq209)
          have hCq212 := Lib.hid (hCq205.out.below bq209)
          have hCq213 := Lib.hid (hCq206.out.below bq209)
          have hCq214 := nq203.below bq209 nq203.lt
          have hBq215 := hBq207.trans (bq209.mono (Nat.le_trans (Nat.le_of_eq HBS.out) hBq207.size))
          clear hCq204 hCq205 hCq206 nq203 hBq207
          clear bq209
          go_wp2_with ((with_reducible show wpList _ _ _ (⟨some 32, _, _, _, _, _⟩ :: _) _ _); refine wpList_buildCells rfl 39 #[(0, .const (.int .u8 1))] rfl (((dA 1).map bv).toArray) (by kernel_rfl) ?_)
          have ltq218 : w.heap.size < wq208.heap.size := hCq214.lt
          refine (NameNil_calls name (dA 1) (dA_len 1).out _).mono ?_
          rintro e wq216 ⟨rfl, bq217⟩
          have hCq219 := Lib.hid (hCq211.out.below bq217)
          have hCq220 := Lib.hid (hCq212.out.below bq217)
          have hCq221 := Lib.hid (hCq213.out.below bq217)
          have hCq222 := hCq214.below bq217 hCq214.lt
          have hBq223 := hBq215.trans (bq217.mono (Nat.le_trans (Nat.le_of_eq HBS.out) hBq215.size))
          clear hCq211 hCq212 hCq213 hCq214 hBq215
          clear bq217
          go_wp2_with fail
          have ltq226 : w.heap.size < wq216.heap.size := hCq222.lt
          refine (NamedNil2_calls name _).mono ?_
          rintro e wq224 ⟨z, hz, rfl, bq225⟩
          have hCq227 := Lib.hid (hCq219.out.below bq225)
          have hCq228 := Lib.hid (hCq220.out.below bq225)
          have hCq229 := Lib.hid (hCq221.out.below bq225)
          have hCq230 := hCq222.below bq225 hCq222.lt
          have hBq231 := hBq223.trans (bq225.mono (Nat.le_trans (Nat.le_of_eq HBS.out) hBq223.size))
          clear hCq219 hCq220 hCq221 hCq222 hBq223
          clear bq225
          have HZ := Lib.hid hz
          clear hz
          go_wp2_with (first | ((with_reducible show wpList _ _ _ (⟨some 9, _, _, _, _, _⟩ :: _) _ _); refine wpList_allocZ rfl 39 rfl _ Try.zeroHash ?_; intro wq232 hsq233 baq234 hNq235) | ((with_reducible show wpList _ _ _ (⟨none, Op.store _ (.tmp 9) _, _, _, _, _⟩ :: _) _ _); refine wpList_storeBlk rfl 39 (.tmp 9) (.tmp 38) rfl (wq224.heap.size) ((z.map bv).toArray) (by rfl) (by rfl) _ _ hNq235 (by rw [bv_size, HZ.out]; exact Try.sizeHash) (by rw [bv_size, HZ.out, Z32_size]) (bv_all _) ?_; intro wq236 hKq237 gq238; have bbq239 := below_new baq234 gq238 (Nat.le_refl _) baq234.size; have ltq240 : w.heap.size < wq224.heap.size := hCq230.lt; have hCq241 := Lib.hid (hCq227.out.below bbq239); have hCq242 := Lib.hid (hCq228.out.below bbq239); have hCq243 := Lib.hid (hCq229.out.below bbq239); have hCq244 := hCq230.below bbq239 hCq230.lt; have hBq245 := hBq231.trans (bbq239.mono (Nat.le_trans (Nat.le_of_eq HBS.out) hBq231.size)); clear hCq227 hCq228 hCq229 hCq230 hBq231; clear bbq239 baq234 hNq235 gq238 hsq233))
          have ltq248 : w.heap.size < wq236.heap.size := hCq244.lt
          have ltq249 : wq224.heap.size < wq236.heap.size := hKq237.lt
          refine (awake_calls _).mono ?_
          rintro e wq246 ⟨rfl, bq247⟩
          have hCq250 := Lib.hid (hCq241.out.below bq247)
          have hCq251 := Lib.hid (hCq242.out.below bq247)
          have hCq252 := Lib.hid (hCq243.out.below bq247)
          have hCq253 := hCq244.below bq247 hCq244.lt
          have hCq254 := hKq237.below bq247 hKq237.lt
          have hBq255 := hBq245.trans (bq247.mono (Nat.le_trans (Nat.le_of_eq HBS.out) hBq245.size))
          clear hCq241 hCq242 hCq243 hCq244 hKq237 hBq245
          clear bq247
          go_wp2_with ((with_reducible show wpList _ _ _ (⟨some 45, _, _, _, _, _⟩ :: _) _ _); refine wpList_if (by rfl) (wp_load1 23 (.tmp 44) rfl (w.heap.size) 1 (by rfl) _ _ (hCq253.cell 1 _ rfl) Try.underlying23 rfl ?_))
          refine (LenNil_calls _).mono ?_
          rintro e ww ⟨rfl, hww⟩
          have hww2 := hww.symm
          clear hww
          subst hww2
          go_wp2_with fail
          have ltq258 : w.heap.size < wq246.heap.size := hCq253.lt
          have ltq259 : wq224.heap.size < wq246.heap.size := hCq254.lt
          refine (Follows_gen _ _ a [] _ (knownNil_calls _ a _ hCq252.out (Nat.le_trans HAL.out (by omega)))).mono ?_
          rintro e wq256 ⟨v5, R, rfl, hR, hRi, hRm, hRl, bq257⟩
          have hCq260 := Lib.hid (hCq250.out.below bq257)
          have hCq261 := Lib.hid (hCq251.out.below bq257)
          have hCq262 := Lib.hid (hCq252.out.below bq257)
          have hCq263 := hCq253.below bq257 hCq253.lt
          have hCq264 := hCq254.below bq257 hCq254.lt
          have hBq265 := hBq255.trans (bq257.mono (Nat.le_trans (Nat.le_of_eq HBS.out) hBq255.size))
          clear hCq250 hCq251 hCq252 hCq253 hCq254 hBq255
          clear bq257
          have hHq266 := Lib.hid hR
          clear hR
          have HRI := Lib.hid hRi
          have HRM := Lib.hid hRm
          have HRL := Lib.hid hRl
          clear hRi hRm hRl
          go_wp2_with fail
          have ltq269 : w.heap.size < wq256.heap.size := hCq263.lt
          have ltq270 : wq224.heap.size < wq256.heap.size := hCq264.lt
          refine (plain4_calls _ R _ hHq266.out (Nat.le_trans HRL.out (by omega))).mono ?_
          rintro e wq267 ⟨v6, rfl, hP, bq268⟩
          have hCq271 := Lib.hid (hCq260.out.below bq268)
          have hCq272 := Lib.hid (hCq261.out.below bq268)
          have hCq273 := Lib.hid (hCq262.out.below bq268)
          have hCq274 := hCq263.below bq268 hCq263.lt
          have hCq275 := hCq264.below bq268 hCq264.lt
          have hCq276 := Lib.hid (hHq266.out.below bq268)
          have hBq277 := hBq265.trans (bq268.mono (Nat.le_trans (Nat.le_of_eq HBS.out) hBq265.size))
          clear hCq260 hCq261 hCq262 hCq263 hCq264 hHq266 hBq265
          clear bq268
          have hHq278 := Lib.hid hP
          clear hP
          go_wp2_with fail
          have ltq281 : w.heap.size < wq267.heap.size := hCq274.lt
          have ltq282 : wq224.heap.size < wq267.heap.size := hCq275.lt
          refine (plain4_calls _ a _ hCq273.out (Nat.le_trans HAL.out (by omega))).mono ?_
          rintro e wq279 ⟨v7, rfl, hQ, bq280⟩
          have hCq283 := Lib.hid (hCq271.out.below bq280)
          have hCq284 := Lib.hid (hCq272.out.below bq280)
          have hCq285 := Lib.hid (hCq273.out.below bq280)
          have hCq286 := hCq274.below bq280 hCq274.lt
          have hCq287 := hCq275.below bq280 hCq275.lt
          have hCq288 := Lib.hid (hCq276.out.below bq280)
          have hCq289 := Lib.hid (hHq278.out.below bq280)
          have hBq290 := hBq277.trans (bq280.mono (Nat.le_trans (Nat.le_of_eq HBS.out) hBq277.size))
          clear hCq271 hCq272 hCq273 hCq274 hCq275 hCq276 hHq278 hBq277
          clear bq280
          have hHq291 := Lib.hid hQ
          clear hQ
          go_wp2_with fail
          have ltq294 : w.heap.size < wq279.heap.size := hCq286.lt
          have ltq295 : wq224.heap.size < wq279.heap.size := hCq287.lt
          refine (RefFollows_noted _ _ a [] base _ (RFactsOwn.nil _ _) hHq291.out.at fewNil HAL.out).mono ?_
          rintro e wq292 ⟨v8, R2, rfl, hR2, hR2i, hR2m, bq293⟩
          have hCq296 := Lib.hid (hCq283.out.below bq293)
          have hCq297 := Lib.hid (hCq284.out.below bq293)
          have hCq298 := Lib.hid (hCq285.out.below bq293)
          have hCq299 := hCq286.below bq293 hCq286.lt
          have hCq300 := hCq287.below bq293 hCq287.lt
          have hCq301 := Lib.hid (hCq288.out.below bq293)
          have hCq302 := Lib.hid (hCq289.out.below bq293)
          have hCq303 := Lib.hid (hHq291.out.below bq293)
          have hBq304 := hBq290.trans (bq293.mono (Nat.le_trans (Nat.le_of_eq HBS.out) hBq290.size))
          clear hCq283 hCq284 hCq285 hCq286 hCq287 hCq288 hCq289 hHq291 hBq290
          clear bq293
          have hHq305 := Lib.hid hR2
          clear hR2
          have HR2I := Lib.hid hR2i
          have HR2M := Lib.hid hR2m
          clear hR2i hR2m
          have HSAME : Hid (decide (R = R2) = true) := decide_eq_true (fol_same HRI.out HR2I.out hCq302.out.1 hHq305.out.1 HRM.out HR2M.out)
          have HR2L : Hid (R2.length ≤ 103600) := fol_len HR2I.out HR2M.out fewNil HAL.out
          go_wp2_with fail
          have ltq308 : w.heap.size < wq292.heap.size := hCq299.lt
          have ltq309 : wq224.heap.size < wq292.heap.size := hCq300.lt
          refine (Alike_calls _ _ R R2 _ hCq302.out.at hHq305.out.at (Nat.le_trans HRL.out (by omega)) (Nat.le_trans HR2L.out (by omega))).mono ?_
          rintro e wq306 ⟨rfl, bq307⟩
          have hCq310 := Lib.hid (hCq296.out.below bq307)
          have hCq311 := Lib.hid (hCq297.out.below bq307)
          have hCq312 := Lib.hid (hCq298.out.below bq307)
          have hCq313 := hCq299.below bq307 hCq299.lt
          have hCq314 := hCq300.below bq307 hCq300.lt
          have hCq315 := Lib.hid (hCq301.out.below bq307)
          have hCq316 := Lib.hid (hCq302.out.below bq307)
          have hCq317 := Lib.hid (hCq303.out.below bq307)
          have hCq318 := Lib.hid (hHq305.out.below bq307)
          have hBq319 := hBq304.trans (bq307.mono (Nat.le_trans (Nat.le_of_eq HBS.out) hBq304.size))
          clear hCq296 hCq297 hCq298 hCq299 hCq300 hCq301 hCq302 hCq303 hHq305 hBq304
          clear bq307
          rw [HSAME.out]
          go_wp2_with fail
          go_returns
          exact ⟨rfl, hBq319⟩
      · have hlb : decide ((m : Int) > 60) = true := by rw [decide_eq_true_eq]; omega
        go_enter Try.func7, Try.ntmps7
        go_wp2_with (first | ((with_reducible show wpList _ _ _ (⟨some 3, _, _, _, _, _⟩ :: _) _ _); refine wpList_boxA rfl 44 (.tmp 0) rfl #[.slice xao p xc, .slice yao q yc] (by rfl) ?_; intro wq320 bq321 nq322; have hCq323 := Lib.hid (HX.out.below bq321); have hCq324 := Lib.hid (HY.out.below bq321); have hCq325 := Lib.hid (HA.out.below bq321); have hBq326 := hB0.trans (bq321.mono (Nat.le_trans (Nat.le_of_eq HBS.out) hB0.size)); clear HX HY HA hB0; clear bq321) | ((with_reducible show wpList _ _ _ (⟨some 12, _, _, _, _, _⟩ :: _) _ _); refine wpList_load1 rfl 23 (.tmp 11) rfl (w.heap.size) 0 (by rfl) _ _ (nq322.cell 0 _ rfl) Try.underlying23 rfl ?_) | ((with_reducible show wpList _ _ _ (⟨some 17, _, _, _, _, _⟩ :: _) _ _); refine wpList_if (by rfl) (wp_load1 23 (.tmp 16) rfl (w.heap.size) 1 (by rfl) _ _ (nq322.cell 1 _ rfl) Try.underlying23 rfl ?_)))
        have ltq329 : w.heap.size < wq320.heap.size := nq322.lt
        refine (awake_calls _).mono ?_
        rintro e wq327 ⟨rfl, bq328⟩
        have hCq330 := Lib.hid (hCq323.out.below bq328)
        have hCq331 := Lib.hid (hCq324.out.below bq328)
        have hCq332 := Lib.hid (hCq325.out.below bq328)
        have hCq333 := nq322.below bq328 nq322.lt
        have hBq334 := hBq326.trans (bq328.mono (Nat.le_trans (Nat.le_of_eq HBS.out) hBq326.size))
        clear hCq323 hCq324 hCq325 nq322 hBq326
        clear bq328
        go_wp2_with fail
        go_returns
        exact ⟨rfl, hBq334⟩
    · have hqb : decide ((q : Int) > 60) = true := by rw [decide_eq_true_eq]; omega
      go_enter Try.func7, Try.ntmps7
      go_wp2_with (first | ((with_reducible show wpList _ _ _ (⟨some 3, _, _, _, _, _⟩ :: _) _ _); refine wpList_boxA rfl 44 (.tmp 0) rfl #[.slice xao p xc, .slice yao q yc] (by rfl) ?_; intro wq335 bq336 nq337; have hCq338 := Lib.hid (HX.out.below bq336); have hCq339 := Lib.hid (HY.out.below bq336); have hCq340 := Lib.hid (HA.out.below bq336); have hBq341 := hB0.trans (bq336.mono (Nat.le_trans (Nat.le_of_eq HBS.out) hB0.size)); clear HX HY HA hB0; clear bq336) | ((with_reducible show wpList _ _ _ (⟨some 12, _, _, _, _, _⟩ :: _) _ _); refine wpList_load1 rfl 23 (.tmp 11) rfl (w.heap.size) 0 (by rfl) _ _ (nq337.cell 0 _ rfl) Try.underlying23 rfl ?_) | ((with_reducible show wpList _ _ _ (⟨some 17, _, _, _, _, _⟩ :: _) _ _); refine wpList_if (by rfl) (wp_load1 23 (.tmp 16) rfl (w.heap.size) 1 (by rfl) _ _ (nq337.cell 1 _ rfl) Try.underlying23 rfl ?_)))
      have ltq344 : w.heap.size < wq335.heap.size := nq337.lt
      refine (awake_calls _).mono ?_
      rintro e wq342 ⟨rfl, bq343⟩
      have hCq345 := Lib.hid (hCq338.out.below bq343)
      have hCq346 := Lib.hid (hCq339.out.below bq343)
      have hCq347 := Lib.hid (hCq340.out.below bq343)
      have hCq348 := nq337.below bq343 nq337.lt
      have hBq349 := hBq341.trans (bq343.mono (Nat.le_trans (Nat.le_of_eq HBS.out) hBq341.size))
      clear hCq338 hCq339 hCq340 nq337 hBq341
      clear bq343
      go_wp2_with fail
      go_returns
      exact ⟨rfl, hBq349⟩
  · have hpb : decide ((p : Int) > 60) = true := by rw [decide_eq_true_eq]; omega
    go_enter Try.func7, Try.ntmps7
    go_wp2_with (first | ((with_reducible show wpList _ _ _ (⟨some 3, _, _, _, _, _⟩ :: _) _ _); refine wpList_boxA rfl 44 (.tmp 0) rfl #[.slice xao p xc, .slice yao q yc] (by rfl) ?_; intro wq350 bq351 nq352; have hCq353 := Lib.hid (HX.out.below bq351); have hCq354 := Lib.hid (HY.out.below bq351); have hCq355 := Lib.hid (HA.out.below bq351); have hBq356 := hB0.trans (bq351.mono (Nat.le_trans (Nat.le_of_eq HBS.out) hB0.size)); clear HX HY HA hB0; clear bq351) | ((with_reducible show wpList _ _ _ (⟨some 12, _, _, _, _, _⟩ :: _) _ _); refine wpList_load1 rfl 23 (.tmp 11) rfl (w.heap.size) 0 (by rfl) _ _ (nq352.cell 0 _ rfl) Try.underlying23 rfl ?_))
    have ltq359 : w.heap.size < wq350.heap.size := nq352.lt
    refine (awake_calls _).mono ?_
    rintro e wq357 ⟨rfl, bq358⟩
    have hCq360 := Lib.hid (hCq353.out.below bq358)
    have hCq361 := Lib.hid (hCq354.out.below bq358)
    have hCq362 := Lib.hid (hCq355.out.below bq358)
    have hCq363 := nq352.below bq358 nq352.lt
    have hBq364 := hBq356.trans (bq358.mono (Nat.le_trans (Nat.le_of_eq HBS.out) hBq356.size))
    clear hCq353 hCq354 hCq355 nq352 hBq356
    clear bq358
    go_wp2_with fail
    go_returns
    exact ⟨rfl, hBq364⟩
end Go.Proofs.Ytjjmcogdohnhjaa
