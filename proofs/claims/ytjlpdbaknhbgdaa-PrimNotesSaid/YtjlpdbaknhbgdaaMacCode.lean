/-
  The program's mac: codes under a key: as contracts over any world.
  The program's mac: Code.
-/
import Derived.Test.YtjlpdbaknhbgdaaShaSum
import Derived.Test.YtjlpdbaknhbgdaaKit0
set_option linter.unusedSimpArgs false
set_option linter.unusedVariables false
namespace Go.Proofs.Ytjlpdbaknhbgdaa
open Go.RowKit

/-- A key of at most 64 bytes, filled up to 64, each with a byte put over it. -/
def padX (c : UInt8) (key : List UInt8) : List UInt8 := (List.range 64).map fun i => key.getD i 0 ^^^ c
def hmac (key text : List UInt8) : List UInt8 := sha (padX 92 key ++ sha (padX 54 key ++ text))
theorem hmac_len (key text : List UInt8) : (hmac key text).length = 32 := sha_len _
theorem padX_len (c : UInt8) (key : List UInt8) : (padX c key).length = 64 := by simp [padX]
/-- The first k of them have it. -/
def padK (c : UInt8) (key : List UInt8) (k : Nat) : List UInt8 := (List.range 64).map fun i => if i < k then key.getD i 0 ^^^ c else key.getD i 0
theorem padK_len (c : UInt8) (key : List UInt8) (k : Nat) : (padK c key k).length = 64 := by simp [padK]
theorem padK_all (c : UInt8) (key : List UInt8) : padK c key 64 = padX c key := by
  unfold padK padX
  apply List.map_congr_left
  intro i hi
  rw [if_pos (by simpa using hi)]
theorem padK_zero (c : UInt8) (key : List UInt8) (h : key.length ≤ 64) : padK c key 0 = key ++ List.replicate (64 - key.length) 0 := by
  apply List.ext_getElem
  · simp [padK]; omega
  · intro i h1 h2
    simp only [padK, List.getElem_map, List.getElem_range, Nat.not_lt_zero, if_false]
    by_cases hi : i < key.length
    · rw [List.getElem_append_left hi, List.getD_eq_getElem?_getD, List.getElem?_eq_getElem hi]; rfl
    · rw [List.getElem_append_right (by omega), List.getElem_replicate, List.getD_eq_getElem?_getD, List.getElem?_eq_none (by omega)]; rfl
theorem padK_get (c : UInt8) (key : List UInt8) (k : Nat) (h : k < 64) : (padK c key k)[k]'(by rw [padK_len]; exact h) = key.getD k 0 := by
  simp [padK]
theorem padK_set (c : UInt8) (key : List UInt8) (k : Nat) (h : k < 64) : (padK c key k).set k (key.getD k 0 ^^^ c) = padK c key (k + 1) := by
  apply List.ext_getElem
  · simp [padK]
  · intro i h1 h2
    have hi : i < 64 := by simpa [padK] using h2
    rw [List.getElem_set]
    simp only [padK, List.getElem_map, List.getElem_range]
    by_cases e : k = i
    · subst e; rw [if_pos rfl, if_pos (by omega)]
    · rw [if_neg e]
      by_cases h3 : i < k
      · rw [if_pos h3, if_pos (by omega)]
      · rw [if_neg h3, if_neg (by omega)]
theorem bxor (a : UInt8) (c : UInt8) : bits BinOp.xor IntKind.u8 (a.toNat : Int) (c.toNat : Int) = ((a ^^^ c).toNat : Int) := by
  rw [u8_xor_nat _ _ a.toNat_lt c.toNat_lt, UInt8.toNat_xor]

theorem wpQuiet_convBlk {P : Program} {ops : Array Oper} {C : World → Prop} {Q : Act → Prop} {a : Act} {o : Oper} {rest : List Oper} (hw : Region.wanted o (yielded ops a.tmps) = true) (src dst e : TypeId) (x : Operand) (ho : o.op = .convert src dst x)
    (hs : P.underlying src = some (.slice e)) (he : P.underlying e = some (.int .u8)) (hd : P.underlying dst = some .string)
    (g n c : Nat) (l : List UInt8) (hn : l.length = n) (hx : a.eval x = .slice (some ⟨g, 0, none⟩) n c) (t : TypeId) (hS : ∀ w, C w → ∃ cs, Blk w g cs t ∧ cs.toList.take l.length = l.map bv)
    (h : wpQuiet P ops C Q rest (a.put o.dst (.string (str l)))) : wpQuiet P ops C Q (o :: rest) a :=
  wpQuiet_step fun K hK => by
    subst hn
    rw [if_pos hw]
    refine ⟨_, fun w hw' => ?_, hK _ h⟩
    obtain ⟨cs, hg, hl⟩ := hS w hw'
    have hr := run_convert_bytes_back (P := P) w src dst e ⟨g, 0, none⟩ c l hs he hd (fun j hj => by
      rw [Addr.add_lit, Nat.zero_add]
      refine hg.cell j _ ?_
      have h2 : (cs.toList.take l.length)[j]? = (l.map bv)[j]? := by rw [hl]
      rw [List.getElem?_take_of_lt hj] at h2
      simpa [bv, hj] using h2)
    unfold Oper.quietAt
    simp [execOp, ho, hx, hr, Result.andThen]
    exact ⟨rfl, rfl⟩

theorem Try.infoStr : (Try.prog.info? 9).map (fun i => (i.zero, i.size, i.bytes)) = some (some (.string (str [])), 1, 16) := by kernel_rfl
/-- What append made of strings. -/
theorem own_strs {w : World} {base : Nat} {e : TypeId} {n : Nat} {v : Value} {ps : List (List UInt8)} (h : w.ownsRow base e 1 v n (ps.map fun s => Value.string (str s))) (hn : 0 < n) : ∃ ao c, v = .slice ao n c ∧ StrsAt w ao n ps := by
  obtain ⟨hl, h2⟩ := h
  rcases h2 with ⟨_, h0⟩ | ⟨g, cap, cur, rfl, hb, hg, h1, h3, h4, h5⟩
  · omega
  · refine ⟨_, _, rfl, by simpa using hl, .inr ⟨g, 0, rfl, lt_of_block hg, fun i hi => ?_⟩⟩
    have e1 : (cur.toList.take (n * 1))[i]? = (ps.map fun s => Value.string (str s))[i]? := by rw [h5]
    rw [List.getElem?_take_of_lt (by simp at hl; omega), List.getElem?_map, List.getElem?_eq_getElem hi] at e1
    have : cur[i]? = some (.string (str ps[i])) := by simpa using e1
    simp [World.cell?, hg, this]

abbrev Z64b : Array Value := fillB 64 0 []
theorem Z64b_eq (n : Nat) : True := trivial
end Go.Proofs.Ytjlpdbaknhbgdaa
set_option linter.unusedSimpArgs false
set_option linter.unusedVariables false
namespace Go.Proofs.Ytjlpdbaknhbgdaa
open Go.RowKit

abbrev Z64c : Array Value := #[.int .u8 0, .int .u8 0, .int .u8 0, .int .u8 0, .int .u8 0, .int .u8 0, .int .u8 0, .int .u8 0, .int .u8 0, .int .u8 0, .int .u8 0, .int .u8 0, .int .u8 0, .int .u8 0, .int .u8 0, .int .u8 0, .int .u8 0, .int .u8 0, .int .u8 0, .int .u8 0, .int .u8 0, .int .u8 0, .int .u8 0, .int .u8 0, .int .u8 0, .int .u8 0, .int .u8 0, .int .u8 0, .int .u8 0, .int .u8 0, .int .u8 0, .int .u8 0, .int .u8 0, .int .u8 0, .int .u8 0, .int .u8 0, .int .u8 0, .int .u8 0, .int .u8 0, .int .u8 0, .int .u8 0, .int .u8 0, .int .u8 0, .int .u8 0, .int .u8 0, .int .u8 0, .int .u8 0, .int .u8 0, .int .u8 0, .int .u8 0, .int .u8 0, .int .u8 0, .int .u8 0, .int .u8 0, .int .u8 0, .int .u8 0, .int .u8 0, .int .u8 0, .int .u8 0, .int .u8 0, .int .u8 0, .int .u8 0, .int .u8 0, .int .u8 0]
theorem Z64c_eq : Z64c = ((List.replicate 64 (0 : UInt8)).map bv).toArray := rfl
theorem Z64c_new (c : UInt8) (key : List UInt8) (h : key.length ≤ 64) : Z64c.toList.take 0 ++ key.map bv ++ Z64c.toList.drop (0 + key.length) = ((padK c key 0).map bv).toArray.toList := by
  rw [Z64c_eq, padK_zero c key h]
  simp only [List.take_zero, List.nil_append, Nat.zero_add, List.map_append, List.map_replicate, List.drop_replicate]
theorem arr_get (l : List UInt8) (k : Nat) (h : k < l.length) : (l.map bv).toArray[k]? = some (bv l[k]) := by
  rw [List.getElem?_toArray, List.getElem?_map, List.getElem?_eq_getElem h]; rfl
theorem arr_set (l : List UInt8) (k : Nat) (c : UInt8) : (l.map bv).toArray.setIfInBounds k (bv c) = ((l.set k c).map bv).toArray := by
  rw [List.setIfInBounds_toArray, List.map_set]

set_option maxHeartbeats 4000000 in
set_option maxRecDepth 100000 in
theorem Code_calls (key : List UInt8) (b off len cap : Nat) (ps : List (List UInt8)) (w : World) (hk : key.length ≤ 64) (h : StrsAt w (some ⟨b, off, none⟩) len ps) (h0 : 0 < len) (hl : ps.flatten.length ≤ 274877906944) (hn : len ≤ 1000000000) :
    Calls Try.prog 44 #[.string (str key), .slice (some ⟨b, off, none⟩) len cap] w fun e w' => e = .returned (.agg ((hmac key ps.flatten).map bv).toArray) ∧ Below w.heap.size w w' := by
  have HH := Lib.hid h
  have HL := Lib.hid hl
  clear h hl
  have hdec : decide ((64 : Int) < (key.length : Int)) = false := by simp; omega
  have hR : Blk (((w.alloc (.cells Z32 26)).alloc (.cells Z64c 101)).alloc (.cells Z64c 101)) w.heap.size Z32 26 := ((Blk.new _ _ _).alloc _).alloc _
  have hA : Blk (((w.alloc (.cells Z32 26)).alloc (.cells Z64c 101)).alloc (.cells Z64c 101)) (w.heap.size + 1) Z64c 101 := by have := (Blk.new (w.alloc (.cells Z32 26)) Z64c 101).alloc (.cells Z64c 101); rwa [show (w.alloc (.cells Z32 26)).heap.size = w.heap.size + 1 by simp] at this
  have hO : Blk (((w.alloc (.cells Z32 26)).alloc (.cells Z64c 101)).alloc (.cells Z64c 101)) (w.heap.size + 1 + 1) Z64c 101 := by have := (Blk.new ((w.alloc (.cells Z32 26)).alloc (.cells Z64c 101)) Z64c 101); rwa [show ((w.alloc (.cells Z32 26)).alloc (.cells Z64c 101)).heap.size = w.heap.size + 1 + 1 by simp] at this
  have hB : Below w.heap.size w (((w.alloc (.cells Z32 26)).alloc (.cells Z64c 101)).alloc (.cells Z64c 101)) := (((Below.refl _ _).alloc (Nat.le_refl _) _).alloc (by simp) _).alloc (by simp; omega) _
  go_enter Try.func44, Try.ntmps44
  go_wp2_with (first | ((with_reducible show wpList _ _ _ (⟨some 20, _, _, _, _, _⟩ :: _) _ _); refine wpList_copyStr rfl (.tmp 18) (.tmp 19) 45 9 rfl 5 Try.underlying45 Try.sizeU8' (w.heap.size + 1) 0 64 64 key (by rfl) (by rfl) Z64c _ hA hk (by show 0 + key.length ≤ 64; omega) ((padK 54 key 0).map bv).toArray (Z64c_new 54 key hk) ?_; intro w1 hA1 g1; have hR1 := Blk.grown hR g1 (by simp); have hO1 := Blk.grown hO g1 (by simp); have hB1 : Below w.heap.size w w1 := hB.trans (grown_below g1 (by omega) hB.size); clear hR hA hO hB g1) | ((with_reducible show wpList _ _ _ (⟨some 23, _, _, _, _, _⟩ :: _) _ _); refine wpList_copyStr rfl (.tmp 21) (.tmp 22) 45 9 rfl 5 Try.underlying45 Try.sizeU8' (w.heap.size + 1 + 1) 0 64 64 key (by rfl) (by rfl) Z64c _ hO1 hk (by show 0 + key.length ≤ 64; omega) ((padK 92 key 0).map bv).toArray (Z64c_new 92 key hk) ?_; intro w2 hO2 g2; have hR2 := Blk.grown hR1 g2 (by simp; omega); have hA2 := Blk.grown hA1 g2 (by simp); have hB2 : Below w.heap.size w w2 := hB1.trans (grown_below g2 (by omega) hB1.size); clear hR1 hA1 hO1 hB1 g2))
  have HO2 := Lib.hid hO2
  have HA2 := Lib.hid hA2
  have HR2 := Lib.hid hR2
  have HB2 := Lib.hid hB2
  clear hO2 hA2 hR2 hB2
  go_loopw [8, 24] (fun _ j wr => ∃ k : Nat, k ≤ 64 ∧ j = .int .i64 k ∧ Blk wr (w.heap.size + 1) ((padK 54 key k).map bv).toArray 101 ∧ Blk wr (w.heap.size + 1 + 1) ((padK 92 key k).map bv).toArray 101 ∧ Blk wr w.heap.size Z32 26 ∧ Hid (Below w.heap.size w wr)) (fun _ j _ => 64 - (intOf j).toNat)
  case atStart => exact ⟨0, by omega, rfl, HA2.out, HO2.out, HR2.out, HB2⟩
  case round =>
    obtain ⟨k, hk64, rfl, hA, hO, hR, hB⟩ := hrel
    clear HA2 HO2 HR2 HB2
    by_cases hlt : k < 64
    · have hca := hA.cell k _ (arr_get _ k (by rw [padK_len]; exact hlt))
      have hco := hO.cell k _ (arr_get _ k (by rw [padK_len]; exact hlt))
      have hfa := hA.free k
      have hfo := hO.free k
      rw [padK_get _ _ _ hlt] at hca hco
      have hA' := hA.set k (bv (key.getD k 0 ^^^ 54))
      have hO' := (hO.setOther ⟨w.heap.size + 1, k, none⟩ (bv (key.getD k 0 ^^^ 54)) (by simp)).set k (bv (key.getD k 0 ^^^ 92))
      rw [arr_set, padK_set _ _ _ hlt] at hA' hO'
      have x1 := bxor (key.getD k 0) 54
      have x2 := bxor (key.getD k 0) 92
      generalize key.getD k 0 = c at hca hco hA' hO' x1 x2
      have HA' := Lib.hid hA'
      have HO' := Lib.hid hO'
      have X1 : Hid (Value.int .u8 (bits BinOp.xor IntKind.u8 (c.toNat : Int) 54) = bv (c ^^^ 54)) := by show _ = _; unfold bv; rw [← x1]; rfl
      have X2 : Hid (Value.int .u8 (bits BinOp.xor IntKind.u8 (c.toNat : Int) 92) = bv (c ^^^ 92)) := by show _ = _; unfold bv; rw [← x2]; rfl
      clear hA' hO' x1 x2
      unfold bv at hca hco
      go_wp2_with fail
      go_roundw
      case rel =>
        rw [X1.out, X2.out]
        exact ⟨k + 1, by omega, by go_num, HA'.out.setOther _ _ (by simp), HO'.out, (hR.setOther _ _ (by simp)).setOther _ _ (by simp; omega), hB.out.trans (grown_below (b := w.heap.size + 1) (grown_set (World.grownBy.refl _ _) _ _) (by omega) hB.out.size |>.trans (grown_below (b := w.heap.size + 1 + 1) (grown_set (World.grownBy.refl _ _) _ _) (by omega) (by simpa using hB.out.size)))⟩
      case measure => simp [intOf]; omega
    · obtain rfl : k = 64 := by omega
      rw [padK_all] at hA hO
      obtain ⟨i9, hi9, hz0, hz1, hz2⟩ := info_parts Try.infoStr
      have HI := Lib.hid hi9
      have HZ0 := Lib.hid hz0
      have HZ1 := Lib.hid hz1
      have HZ2 := Lib.hid hz2
      clear hi9 hz0 hz1 hz2
      have hws : w.heap.size ≤ wr.heap.size := hB.out.size
      obtain ⟨hpl, hpr⟩ := HH.out.below hB.out
      have hps : ∀ i (hi : i < ps.length), wr.cell? ⟨b, off + i, none⟩ = some (.string (str ps[i])) := by
        rcases hpr with e0 | ⟨b', off', e1, _, hc⟩
        · omega
        · simp at e1
          obtain ⟨rfl, rfl⟩ := e1
          exact hc
      have HPL := Lib.hid hpl
      have HPS := Lib.hid hps
      clear hpl hpr hps
      have hbw : b < wr.heap.size := by
        rcases (HH.out.below hB.out).2 with e0 | ⟨b', off', e1, h3, _⟩
        · omega
        · simp at e1; omega
      go_wp2_with (first | ((with_reducible show wpList _ _ _ (⟨some 39, _, _, _, _, _⟩ :: _) _ _); refine wpList_convBlk rfl 45 9 5 (.tmp 38) rfl Try.underlying45 Try.underlying5 Try.underlying9 (w.heap.size + 1) 64 64 (by rfl) _ _ hA (padX 54 key) (padX_len _ _) (List.take_of_length_le (by simp [padX_len])) ?_) | ((with_reducible show wpList _ _ _ (⟨some 42, _, _, _, _, _⟩ :: _) _ _); refine wpList_append_own _ rfl _ _ 98 rfl wr.heap.size 9 i9 (.string (str [])) 1 16 Try.underlying98 HI.out HZ0.out HZ1.out HZ2.out rfl (by decide) _ 1 [.string (str (padX 54 key))] (by rfl) (World.ownsRow_lit wr #[.string (str (padX 54 key))] 1 (Nat.le_refl _) (by unfold maxLen; omega) rfl) ⟨b, off, none⟩ len cap (ps.map fun s => Value.string (str s)) (by rfl) (by rw [List.length_map, HPL.out, Nat.mul_one]) ?_ ?_ (by unfold maxLen; omega) (by omega) (by simp) ?_))
      · intro j u hu
        have hj : j < ps.length := by have := (List.getElem?_eq_some_iff.1 hu).1; simpa using this
        rw [List.getElem?_map, List.getElem?_eq_getElem hj] at hu
        rw [Addr.add_mid]
        have h1 := ((Below.refl wr.heap.size wr).alloc (Nat.le_refl _) (.cells #[.string (str (padX 54 key))] 9)).cell (p := ⟨b, off + j, none⟩) hbw
        rw [h1, HPS.out j hj]
        simpa using hu
      · intro u hu
        obtain ⟨x, _, rfl⟩ := List.mem_map.1 hu
        rfl
      · intro v' w3 hown g3 _
        obtain ⟨ao', c', rfl, hst⟩ := own_strs (ps := padX 54 key :: ps) hown (by omega)
        have hb3 : Below wr.heap.size wr w3 := ((Below.refl wr.heap.size wr).alloc (Nat.le_refl _) _).grown g3 (by simp) (fun k hk => by cases hk; exact Nat.le_refl _)
        have hO3 := Blk.below hO hb3 (Blk.lt hO)
        have hR3 := Blk.below hR hb3 (Blk.lt hR)
        have hB3 : Hid (Below w.heap.size w w3) := hB.out.trans (hb3.mono hws)
        have HST := Lib.hid hst
        clear hown g3 hst hb3 hA hO hR hB HPS HI HZ0 HZ1 HZ2 hbw
        go_wp2_with fail
        have hln : (padX 54 key :: ps).flatten.length ≤ 549755813888 := by
          have h1 : ps.flatten.length ≤ 274877906944 := HL.out
          rw [List.flatten_cons, List.length_append, padX_len]
          omega
        refine (Sum_calls ao' (1 + len) c' (padX 54 key :: ps) _ HST.out hln (by omega)).mono ?_
        rintro e w4 ⟨rfl, b4⟩
        rw [List.flatten_cons]
        have hO4 := Blk.below hO3 b4 (Blk.lt hO3)
        have hR4 := Blk.below hR3 b4 (Blk.lt hR3)
        have hB4 : Hid (Below w.heap.size w w4) := hB3.out.trans (b4.mono hB3.out.size)
        have h32 := sha_len (padX 54 key ++ ps.flatten)
        obtain ⟨x, hx⟩ : ∃ x, x = sha (padX 54 key ++ ps.flatten) := ⟨_, rfl⟩
        rw [← hx] at h32 ⊢
        have HX := Lib.hid hx
        have H32 := Lib.hid h32
        have hN4 := Blk.new w4 Z32 26
        have hO5 := Blk.alloc hO4 (.cells Z32 26)
        have hR5 := Blk.alloc hR4 (.cells Z32 26)
        have hB5 : Below w.heap.size w (w4.alloc (.cells Z32 26)) := hB4.out.alloc hB4.out.size _
        have hs4 : w.heap.size + 1 + 1 < w4.heap.size := Blk.lt hO4
        clear hx h32 b4 hO3 hR3 hB3 hO4 hR4 hB4 HST
        go_wp2_with ((with_reducible show wpList _ _ _ (⟨none, Op.store _ (.tmp 9) _, _, _, _, _⟩ :: _) _ _); refine wpList_storeBlk rfl 26 (.tmp 9) (.tmp 43) rfl w4.heap.size (x.map bv).toArray (by rfl) (by rfl) _ _ hN4 (by rw [bv_size, H32.out]; exact Try.sizeHash) (by rw [bv_size, H32.out, Z32_size]) (bv_all _) ?_; intro w6 hH6 g6; have hO6 := Blk.grown hO5 g6 (by simp; omega); have hR6 := Blk.grown hR5 g6 (by simp; omega); have hB6 : Hid (Below w.heap.size w w6) := below_new hB5 g6 (by omega) (by simp; omega); clear hN4 hO5 hR5 hB5 g6)
        simp only [Act.put, List.setIfInBounds_toArray, List.set_cons_succ, List.set_cons_zero]
        have HO6 : Hid (∀ w' : World, w' = w6.drew → ∃ cs, Blk w' (w.heap.size + 1 + 1) cs 101 ∧ cs.toList.take (padX 92 key).length = (padX 92 key).map bv) := by
          intro w' e; subst e
          exact ⟨_, Blk.drew hO6, List.take_of_length_le (by simp)⟩
        have HH6 : Hid (∀ w' : World, w' = w6.drew → ∃ cs, Blk w' w4.heap.size cs 26 ∧ cs.toList.take x.length = x.map bv) := by
          intro w' e; subst e
          exact ⟨_, Blk.drew hH6, List.take_of_length_le (by simp)⟩
        refine wp_still_store 4 (by kernel_rfl) (by kernel_rfl) ?_
        simp only [List.take_succ_cons, List.take_zero, List.drop_succ_cons, List.drop_zero]
        repeat (first | ((with_reducible show wpQuiet _ _ _ _ (⟨some 45, _, _, _, _, _⟩ :: _) _); refine wpQuiet_convBlk (by rfl) 45 9 5 (.tmp 44) rfl Try.underlying45 Try.underlying5 Try.underlying9 (w.heap.size + 1 + 1) 64 64 (padX 92 key) (padX_len _ _) (by rfl) _ HO6.out ?_; simp only [Act.put, List.setIfInBounds_toArray, List.set_cons_succ, List.set_cons_zero]) | ((with_reducible show wpQuiet _ _ _ _ (⟨some 47, _, _, _, _, _⟩ :: _) _); refine wpQuiet_convBlk (by rfl) 45 9 5 (.tmp 46) rfl Try.underlying45 Try.underlying5 Try.underlying9 w4.heap.size 32 32 x H32.out (by rfl) _ HH6.out ?_; simp only [Act.put, List.setIfInBounds_toArray, List.set_cons_succ, List.set_cons_zero]) | go_big_quiet_skip | (go_big_quiet_want; go_big_quiet_op; go_big_quiet_on))
        refine wpQuiet_nil ?_
        have hs6 : w.heap.size + 1 + 1 < w6.heap.size := Blk.lt hO6
        have hst : StrsAt (w6.drew.alloc (.cells #[.string (str (padX 92 key)), .string (str x)] 9)) (some ⟨w6.drew.heap.size, 0, none⟩) 2 [padX 92 key, x] := StrsAt.blk [padX 92 key, x] (Blk.new w6.drew #[.string (str (padX 92 key)), .string (str x)] 9)
        have hR7 := Blk.alloc (Blk.drew hR6) (.cells #[.string (str (padX 92 key)), .string (str x)] 9)
        have hB7 : Hid (Below w.heap.size w (w6.drew.alloc (.cells #[.string (str (padX 92 key)), .string (str x)] 9))) := (below_drewN hB6.out 1).alloc hB6.out.size _
        have HST := Lib.hid hst
        clear hst hO6 hH6 HO6 HH6 hR6 hB6
        go_wp2_with fail
        refine (Sum_calls _ 2 _ [padX 92 key, x] _ HST.out (by simp [padX_len, H32.out]) (by omega)).mono ?_
        rintro e w8 ⟨rfl, b8⟩
        have hR8 := Blk.below hR7 b8 (Blk.lt hR7)
        have hB8 : Below w.heap.size w w8 := hB7.out.trans (b8.mono hB7.out.size)
        have hfin : Hid ((sha [padX 92 key, x].flatten) = hmac key ps.flatten) := by
          show _ = _
          rw [HX.out]
          simp only [List.flatten_cons, List.flatten_nil, List.append_nil]
          rfl
        have h32 := Lib.hid (hmac_len key ps.flatten)
        rw [hfin.out]
        obtain ⟨y, hy⟩ : ∃ y, y = hmac key ps.flatten := ⟨_, rfl⟩
        have HY := Lib.hid hy
        rw [← hy] at h32 ⊢
        clear hy hfin b8 hR7 hB7 HST
        go_wp2_with ((with_reducible show wpList _ _ _ (⟨none, Op.store _ (.tmp 4) _, _, _, _, _⟩ :: _) _ _); refine wpList_storeBlk rfl 26 (.tmp 4) (.tmp 49) rfl w.heap.size (y.map bv).toArray (by rfl) (by rfl) _ _ hR8 (by rw [bv_size, h32.out]; exact Try.sizeHash) (by rw [bv_size, h32.out, Z32_size]) (bv_all _) ?_; intro w9 hB9 g9; have h9 := hB8.trans (grown_below g9 (Nat.le_refl _) hB8.size))
        refine ret_blk rfl w.heap.size _ _ _ (by rfl) hB9 Try.underlying26 rfl (by rw [bv_size, h32.out]; exact Try.sizeHash) rfl ?_
        rw [← HY.out]
        exact ⟨rfl, h9⟩
end Go.Proofs.Ytjlpdbaknhbgdaa
