/-
  dag: how many entries the map has; Len.
-/
import Derived.Test.YtodnmhflafpefaaDagFloor
import Derived.WalkLawsBesides
import Derived.Outline
import Derived.Handy
set_option linter.unusedSimpArgs false
set_option linter.unusedVariables false
namespace Go.Proofs.Ytodnmhflafpefaa
open Go.RowKit Go.MapKept

theorem map_len {P : Program} {k : TypeId} (K : MKey P k hashOk hashEnc) {w : World} {mb n : Nat} {L : List Vx} (h : MapIs hashOk hashEnc w mb n (lookV L)) (hn : (L.map (·.id)).Nodup) : ∃ es clock, w.heap[mb]? = some (.map es clock) ∧ es.size = L.length := by
  obtain ⟨es, clock, hb, -, hS, hE⟩ := h
  refine ⟨es, clock, hb, ?_⟩
  have h1 : (es.toList.map (·.key)).Nodup := by
    have := ((stamped_iff es clock).1 hS).2.2
    rw [List.Nodup, List.pairwise_map]
    exact this
  have hok : ∀ v ∈ L, hashOk v.id := fun v _ => v.hi
  have h2 : (L.map (fun v => hashEnc v.id)).Nodup := by
    rw [List.Nodup, List.pairwise_map] at hn ⊢
    exact hn.imp_of_mem fun {a b} ha hb' hab e => hab (K.inj _ _ (hok a ha) (hok b hb') e)
  have hp : (es.toList.map (·.key)).Perm (L.map (fun v => hashEnc v.id)) := by
    refine (List.perm_ext_iff_of_nodup h1 h2).2 fun q => ?_
    constructor
    · intro hq
      obtain ⟨x, hx, rfl⟩ := List.mem_map.1 hq
      obtain ⟨y, hy, e1, e2⟩ := hE.1 x hx
      obtain ⟨v, hv, e3, -⟩ := lookV_some e2
      exact List.mem_map.2 ⟨v, hv, by rw [e3, e1]⟩
    · intro hq
      obtain ⟨v, hv, rfl⟩ := List.mem_map.1 hq
      obtain ⟨x, hx, e1, -⟩ := hE.2 v.id _ (hok v hv) (lookV_mem hn hv)
      exact List.mem_map.2 ⟨x, hx, e1⟩
  have := hp.length_eq
  simpa using this
/-- 'len(m)'. -/
theorem wpList_lenM {P : Program} {w : World} {ops : Array Oper} {rest : List Oper} {o : Oper} {a : Act} {Q : Exit → Act → World → Prop} (hg : o.guard = none) (m : Operand) (t k e : TypeId) (ho : o.op = .call { callee := .builtin .len, args := #[m], argTypes := #[t] }) (ht : P.underlying t = some (.map k e)) (b n : Nat) (es : Array MapEntry) (clock : Nat)
    (hm : a.eval m = .map (some b)) (hb : w.heap[b]? = some (.map es clock)) (hn : es.size = n)
    (hK : wpList P ops Q rest (a.put o.dst (.int .i64 (n : Nat))) w) : wpList P ops Q (o :: rest) a w := by
  refine wpList_plain hg fun K' hK' => ?_
  unfold Oper.wp
  subst hn
  simp [execOp, ho, resolve, invoke, builtin, hm, Builtin.len_, run_underlying ht, MapKept.run_getObj_map hb, Result.andThen]
  exact hK' _ _ hK
set_option maxHeartbeats 4000000 in
set_option maxRecDepth 100000 in
theorem DLen_calls (sp mb : Nat) (keep : Int) (L : List Vx) (w : World) (h : StoreIs w sp mb keep L) :
    Calls Try.prog 11 #[.pointer (some ⟨sp, 0, none⟩)] w fun e w' => e = .returned (.int .i64 (L.length : Nat)) ∧ w' = w := by
  obtain ⟨es, clock, hb, hs⟩ := map_len Try.hashKey h.map h.nodup
  have hblk := h.blk
  have HLn := Lib.hid hs
  clear h hs
  go_enter Try.func11, Try.ntmps11
  go_wp2_with (first | ((with_reducible show wpList _ _ _ (⟨some 8, _, _, _, _, _⟩ :: _) _ _); refine wpList_load1 rfl 46 (.tmp 7) rfl sp 1 (by rfl) (.map (some mb)) _ (hblk.cell 1 _ rfl) Try.underlying46 rfl ?_) | ((with_reducible show wpList _ _ _ (⟨some 9, _, _, _, _, _⟩ :: _) _ _); refine wpList_lenM rfl (.tmp 8) 46 32 35 rfl Try.underlying46 mb L.length es clock rfl hb HLn.out ?_))
  go_returns
  exact ⟨rfl, rfl⟩
set_option maxHeartbeats 4000000 in
set_option maxRecDepth 100000 in
theorem DLenNil_calls (w : World) :
    Calls Try.prog 11 #[.pointer none] w fun e w' => e = .returned (.int .i64 0) ∧ w' = w := by
  go_enter Try.func11, Try.ntmps11
  go_wp2
  go_returns
  exact ⟨rfl, rfl⟩
end Go.Proofs.Ytodnmhflafpefaa
