/-
  No cell of these rows narrows 'for every input' (looked for: loops, veiled, ifaces, maps, wideKeys, modest, calm, conditions, laid).
  DERIVED. THE GIVEN ROWS OF THIS SEAT. 5 by the template 'for every input the law returns true; each argument reads behind the call as it read before'; 0 by the template 'total and deterministic' (their statements: YtjjmcogdohnhjaaTotals.lean).
  GIVEN WITH THE SEED: the statements are not yours to turn. If you find one false, say at which input.
  Laid BY PROGRAM, IN A SANDBOX (cutbox-rows.mjs): the forced cells as the released guide's own fill.sh prints them over the translation 212a43809d033eaf… (all of the seat's roots in one cut). By AI agents, Wed Nov 11 2026. No macro, syntax, notation, axiom, sorry.
-/
import Derived.Test.YtjjmcogdohnhjaaChecked
import GoSem.Claim
import GoSem.ClaimJoined
import GoSem.ClaimMapViews
import Derived.JoinedTies
import Derived.KernelRfl
namespace Go.Proofs.Ytjjmcogdohnhjaa
/- THE CELL 'sum', in the pinned program and in every row, IS THE sha256 OF THE DUMP (.gsa) THAT YtjjmcogdohnhjaaProg.lean LOADS. Nothing in Lean hashes anything: it is a label: what it is worth is what the hold of that sum in a sandbox is worth. -/
noncomputable def Try.pinned : Pinned := { name := "ytjjmcogdohnhjaa", sum := "212a43809d033eaf30012a258930055db167837c7ae9b84cae9c2dca0958ec6e", checked := Try.checked }
namespace Rows
def none {H : Type} : Left H := { results := [], args := [] }

/-- 'bevylaw04.BookFollows': WHATEVER THE INPUT: true; the input reads as it did. -/
def bookFollowsSpec : ChangeSpec := { name := "bookFollows", fn := fun _ => fun
  | [d1, d2] => { results := [.lit (.bool true)], args := [d1, d2] }
  | _ => none }
def bookFollowsRow : OpenClaim := { program := "ytjjmcogdohnhjaa", sum := "212a43809d033eaf30012a258930055db167837c7ae9b84cae9c2dca0958ec6e", func := "bevy/bevylaw04.BookFollows", spec := "bookFollows", unfollowed := true, recurses := true, plainKeys := false, apart := false }
def BookFollowsSaid : Prop := bookFollowsRow.holds Try.pinned (OpenSpec.ofChange bookFollowsSpec)

/-- ITS FALSE NEIGHBOUR: 'it returns false'. Refute it at one input. -/
def bookFollowsWrong : ChangeSpec := { name := "bookFollows", fn := fun _ => fun
  | [d1, d2] => { results := [.lit (.bool false)], args := [d1, d2] }
  | _ => none }
def BookFollowsWrongFalsely : Prop := bookFollowsRow.holds Try.pinned (OpenSpec.ofChange bookFollowsWrong)

/-- 'bevylaw04.BookMore': WHATEVER THE INPUT: true; the input reads as it did. -/
def bookMoreSpec : ChangeSpec := { name := "bookMore", fn := fun _ => fun
  | [d1, d2, d3, d4] => { results := [.lit (.bool true)], args := [d1, d2, d3, d4] }
  | _ => none }
def bookMoreRow : OpenClaim := { program := "ytjjmcogdohnhjaa", sum := "212a43809d033eaf30012a258930055db167837c7ae9b84cae9c2dca0958ec6e", func := "bevy/bevylaw04.BookMore", spec := "bookMore", unfollowed := true, recurses := true, plainKeys := false, apart := false }
def BookMoreSaid : Prop := bookMoreRow.holds Try.pinned (OpenSpec.ofChange bookMoreSpec)

/-- ITS FALSE NEIGHBOUR: 'it returns false'. Refute it at one input. -/
def bookMoreWrong : ChangeSpec := { name := "bookMore", fn := fun _ => fun
  | [d1, d2, d3, d4] => { results := [.lit (.bool false)], args := [d1, d2, d3, d4] }
  | _ => none }
def BookMoreWrongFalsely : Prop := bookMoreRow.holds Try.pinned (OpenSpec.ofChange bookMoreWrong)

/-- 'bevylaw04.BookRules': WHATEVER THE INPUT: true; the input reads as it did. -/
def bookRulesSpec : ChangeSpec := { name := "bookRules", fn := fun _ => fun
  | [d1, d2, d3] => { results := [.lit (.bool true)], args := [d1, d2, d3] }
  | _ => none }
def bookRulesRow : OpenClaim := { program := "ytjjmcogdohnhjaa", sum := "212a43809d033eaf30012a258930055db167837c7ae9b84cae9c2dca0958ec6e", func := "bevy/bevylaw04.BookRules", spec := "bookRules", unfollowed := true, recurses := true, plainKeys := false, apart := false }
def BookRulesSaid : Prop := bookRulesRow.holds Try.pinned (OpenSpec.ofChange bookRulesSpec)

/-- ITS FALSE NEIGHBOUR: 'it returns false'. Refute it at one input. -/
def bookRulesWrong : ChangeSpec := { name := "bookRules", fn := fun _ => fun
  | [d1, d2, d3] => { results := [.lit (.bool false)], args := [d1, d2, d3] }
  | _ => none }
def BookRulesWrongFalsely : Prop := bookRulesRow.holds Try.pinned (OpenSpec.ofChange bookRulesWrong)

/-- 'bevylaw04.BookNames': WHATEVER THE INPUT: true; the input reads as it did. -/
def bookNamesSpec : ChangeSpec := { name := "bookNames", fn := fun _ => fun
  | [d1, d2] => { results := [.lit (.bool true)], args := [d1, d2] }
  | _ => none }
def bookNamesRow : OpenClaim := { program := "ytjjmcogdohnhjaa", sum := "212a43809d033eaf30012a258930055db167837c7ae9b84cae9c2dca0958ec6e", func := "bevy/bevylaw04.BookNames", spec := "bookNames", unfollowed := true, recurses := true, plainKeys := false, apart := false }
def BookNamesSaid : Prop := bookNamesRow.holds Try.pinned (OpenSpec.ofChange bookNamesSpec)

/-- ITS FALSE NEIGHBOUR: 'it returns false'. Refute it at one input. -/
def bookNamesWrong : ChangeSpec := { name := "bookNames", fn := fun _ => fun
  | [d1, d2] => { results := [.lit (.bool false)], args := [d1, d2] }
  | _ => none }
def BookNamesWrongFalsely : Prop := bookNamesRow.holds Try.pinned (OpenSpec.ofChange bookNamesWrong)

/-- 'bevylaw04.BookNil': WHATEVER THE INPUT: true; the input reads as it did. -/
def bookNilSpec : ChangeSpec := { name := "bookNil", fn := fun _ => fun
  | [d1, d2, d3] => { results := [.lit (.bool true)], args := [d1, d2, d3] }
  | _ => none }
def bookNilRow : OpenClaim := { program := "ytjjmcogdohnhjaa", sum := "212a43809d033eaf30012a258930055db167837c7ae9b84cae9c2dca0958ec6e", func := "bevy/bevylaw04.BookNil", spec := "bookNil", unfollowed := true, recurses := true, plainKeys := false, apart := false }
def BookNilSaid : Prop := bookNilRow.holds Try.pinned (OpenSpec.ofChange bookNilSpec)

/-- ITS FALSE NEIGHBOUR: 'it returns false'. Refute it at one input. -/
def bookNilWrong : ChangeSpec := { name := "bookNil", fn := fun _ => fun
  | [d1, d2, d3] => { results := [.lit (.bool false)], args := [d1, d2, d3] }
  | _ => none }
def BookNilWrongFalsely : Prop := bookNilRow.holds Try.pinned (OpenSpec.ofChange bookNilWrong)

/- THE SECOND FORM. 'bulk': how many values and letters a reading holds, each counted each time it is reached (what is shared counts as often as it is met; a slice's spare places count too). A statement '..UptoSaid' is the law's where the arguments, and the package variables that the reading takes, are together of bulk at most 1048576: NARROWER than '..Said'. Prove '..Said' where nothing that the law and all that it calls make is longer than what came in: it says more and counts as full. Else prove '..UptoSaid'. A law counts once. -/
mutual
def uptoBulk {H : Type} : DataW H → Nat
  | .lit (.string bytes) => bytes.length + 1
  | .lit _ => 1
  | .nil => 1
  | .ptr d => uptoBulk d + 1
  | .slice elems spare => uptoBulkAll elems + uptoBulkAll spare + 1
  | .agg parts => uptoBulkAll parts + 1
  | .iface _ d => uptoBulk d + 1
  | .map entries => uptoBulkEntries entries + 1
  | .held _ => 1
def uptoBulkAll {H : Type} : List (DataW H) → Nat
  | [] => 0
  | d :: r => uptoBulk d + uptoBulkAll r
def uptoBulkEntries {H : Type} : List (Lit × DataW H) → Nat
  | [] => 0
  | x :: r => uptoBulkEntry x + uptoBulkEntries r
def uptoBulkEntry {H : Type} : Lit × DataW H → Nat
  | (.string bytes, d) => bytes.length + uptoBulk d + 1
  | (_, d) => uptoBulk d + 1
 end
def uptoSmall : (H : Type) → List (DataW H) → Bool := fun _ ds => decide (uptoBulkAll ds ≤ 1048576)
def OpenSpec.upto (s : _root_.Go.ChangeSpec) : _root_.Go.OpenSpec := { _root_.Go.OpenSpec.ofChange s with cond := some uptoSmall }

/-- 'bevylaw04.BookFollows', WHERE WHAT IT READS IS OF BULK AT MOST 1048576: true; the input reads as it did. -/
def bookFollowsUptoRow : OpenClaim := { program := "ytjjmcogdohnhjaa", sum := "212a43809d033eaf30012a258930055db167837c7ae9b84cae9c2dca0958ec6e", func := "bevy/bevylaw04.BookFollows", spec := "bookFollows", unfollowed := true, recurses := true, plainKeys := false, apart := false, narrowed := true }
def BookFollowsUptoSaid : Prop := bookFollowsUptoRow.holds Try.pinned (OpenSpec.upto bookFollowsSpec)

/-- 'bevylaw04.BookMore', WHERE WHAT IT READS IS OF BULK AT MOST 1048576: true; the input reads as it did. -/
def bookMoreUptoRow : OpenClaim := { program := "ytjjmcogdohnhjaa", sum := "212a43809d033eaf30012a258930055db167837c7ae9b84cae9c2dca0958ec6e", func := "bevy/bevylaw04.BookMore", spec := "bookMore", unfollowed := true, recurses := true, plainKeys := false, apart := false, narrowed := true }
def BookMoreUptoSaid : Prop := bookMoreUptoRow.holds Try.pinned (OpenSpec.upto bookMoreSpec)

/-- 'bevylaw04.BookRules', WHERE WHAT IT READS IS OF BULK AT MOST 1048576: true; the input reads as it did. -/
def bookRulesUptoRow : OpenClaim := { program := "ytjjmcogdohnhjaa", sum := "212a43809d033eaf30012a258930055db167837c7ae9b84cae9c2dca0958ec6e", func := "bevy/bevylaw04.BookRules", spec := "bookRules", unfollowed := true, recurses := true, plainKeys := false, apart := false, narrowed := true }
def BookRulesUptoSaid : Prop := bookRulesUptoRow.holds Try.pinned (OpenSpec.upto bookRulesSpec)

/-- 'bevylaw04.BookNames', WHERE WHAT IT READS IS OF BULK AT MOST 1048576: true; the input reads as it did. -/
def bookNamesUptoRow : OpenClaim := { program := "ytjjmcogdohnhjaa", sum := "212a43809d033eaf30012a258930055db167837c7ae9b84cae9c2dca0958ec6e", func := "bevy/bevylaw04.BookNames", spec := "bookNames", unfollowed := true, recurses := true, plainKeys := false, apart := false, narrowed := true }
def BookNamesUptoSaid : Prop := bookNamesUptoRow.holds Try.pinned (OpenSpec.upto bookNamesSpec)

/-- 'bevylaw04.BookNil', WHERE WHAT IT READS IS OF BULK AT MOST 1048576: true; the input reads as it did. -/
def bookNilUptoRow : OpenClaim := { program := "ytjjmcogdohnhjaa", sum := "212a43809d033eaf30012a258930055db167837c7ae9b84cae9c2dca0958ec6e", func := "bevy/bevylaw04.BookNil", spec := "bookNil", unfollowed := true, recurses := true, plainKeys := false, apart := false, narrowed := true }
def BookNilUptoSaid : Prop := bookNilUptoRow.holds Try.pinned (OpenSpec.upto bookNilSpec)

end Rows
end Go.Proofs.Ytjjmcogdohnhjaa
