/-
  No cell of these rows narrows 'for every input' (looked for: loops, veiled, ifaces, maps, wideKeys, modest, calm, conditions, laid).
  DERIVED. THE GIVEN ROWS OF THIS SEAT. 10 by the template 'for every input the law returns true; each argument reads behind the call as it read before'; 0 by the template 'total and deterministic' (their statements: YtdmjiokeangmmaaTotals.lean).
  GIVEN WITH THE SEED: the statements are not yours to turn. If you find one false, say at which input.
  Laid BY PROGRAM, IN A SANDBOX (cutbox-rows.mjs): the forced cells as the released guide's own fill.sh prints them over the translation 860e860c3926afe0… (all of the seat's roots in one cut). By AI agents, Wed Nov 11 2026. No macro, syntax, notation, axiom, sorry.
-/
import Derived.Test.YtdmjiokeangmmaaChecked
import GoSem.Claim
import GoSem.ClaimJoined
import GoSem.ClaimMapViews
import Derived.JoinedTies
import Derived.KernelRfl
namespace Go.Proofs.Ytdmjiokeangmmaa
/- THE CELL 'sum', in the pinned program and in every row, IS THE sha256 OF THE DUMP (.gsa) THAT YtdmjiokeangmmaaProg.lean LOADS. Nothing in Lean hashes anything: it is a label: what it is worth is what the hold of that sum in a sandbox is worth. -/
noncomputable def Try.pinned : Pinned := { name := "ytdmjiokeangmmaa", sum := "860e860c3926afe0ca8166fde831b7d1bd9a3f7eda09cdee6d9f5d7538db12fe", checked := Try.checked }
namespace Rows
def none {H : Type} : Left H := { results := [], args := [] }

/-- 'bevylaw07.BoughWays': WHATEVER THE INPUT: true; the input reads as it did. -/
def boughWaysSpec : ChangeSpec := { name := "boughWays", fn := fun _ => fun
  | [d1, d2, d3] => { results := [.lit (.bool true)], args := [d1, d2, d3] }
  | _ => none }
def boughWaysRow : OpenClaim := { program := "ytdmjiokeangmmaa", sum := "860e860c3926afe0ca8166fde831b7d1bd9a3f7eda09cdee6d9f5d7538db12fe", func := "bevy/bevylaw07.BoughWays", spec := "boughWays", unfollowed := true, recurses := true, apart := false }
def BoughWaysSaid : Prop := boughWaysRow.holds Try.pinned (OpenSpec.ofChange boughWaysSpec)

/-- ITS FALSE NEIGHBOUR: 'it returns false'. Refute it at one input. -/
def boughWaysWrong : ChangeSpec := { name := "boughWays", fn := fun _ => fun
  | [d1, d2, d3] => { results := [.lit (.bool false)], args := [d1, d2, d3] }
  | _ => none }
def BoughWaysWrongFalsely : Prop := boughWaysRow.holds Try.pinned (OpenSpec.ofChange boughWaysWrong)

/-- 'bevylaw07.BoughLeaves': WHATEVER THE INPUT: true; the input reads as it did. -/
def boughLeavesSpec : ChangeSpec := { name := "boughLeaves", fn := fun _ => fun
  | [d1, d2, d3] => { results := [.lit (.bool true)], args := [d1, d2, d3] }
  | _ => none }
def boughLeavesRow : OpenClaim := { program := "ytdmjiokeangmmaa", sum := "860e860c3926afe0ca8166fde831b7d1bd9a3f7eda09cdee6d9f5d7538db12fe", func := "bevy/bevylaw07.BoughLeaves", spec := "boughLeaves", unfollowed := true, recurses := true, apart := false }
def BoughLeavesSaid : Prop := boughLeavesRow.holds Try.pinned (OpenSpec.ofChange boughLeavesSpec)

/-- ITS FALSE NEIGHBOUR: 'it returns false'. Refute it at one input. -/
def boughLeavesWrong : ChangeSpec := { name := "boughLeaves", fn := fun _ => fun
  | [d1, d2, d3] => { results := [.lit (.bool false)], args := [d1, d2, d3] }
  | _ => none }
def BoughLeavesWrongFalsely : Prop := boughLeavesRow.holds Try.pinned (OpenSpec.ofChange boughLeavesWrong)

/-- 'bevylaw07.BoughGrows': WHATEVER THE INPUT: true; the input reads as it did. -/
def boughGrowsSpec : ChangeSpec := { name := "boughGrows", fn := fun _ => fun
  | [d1, d2] => { results := [.lit (.bool true)], args := [d1, d2] }
  | _ => none }
def boughGrowsRow : OpenClaim := { program := "ytdmjiokeangmmaa", sum := "860e860c3926afe0ca8166fde831b7d1bd9a3f7eda09cdee6d9f5d7538db12fe", func := "bevy/bevylaw07.BoughGrows", spec := "boughGrows", unfollowed := true, recurses := true, apart := false }
def BoughGrowsSaid : Prop := boughGrowsRow.holds Try.pinned (OpenSpec.ofChange boughGrowsSpec)

/-- ITS FALSE NEIGHBOUR: 'it returns false'. Refute it at one input. -/
def boughGrowsWrong : ChangeSpec := { name := "boughGrows", fn := fun _ => fun
  | [d1, d2] => { results := [.lit (.bool false)], args := [d1, d2] }
  | _ => none }
def BoughGrowsWrongFalsely : Prop := boughGrowsRow.holds Try.pinned (OpenSpec.ofChange boughGrowsWrong)

/-- 'bevylaw07.BoughRoots': WHATEVER THE INPUT: true; the input reads as it did. -/
def boughRootsSpec : ChangeSpec := { name := "boughRoots", fn := fun _ => fun
  | [d] => { results := [.lit (.bool true)], args := [d] }
  | _ => none }
def boughRootsRow : OpenClaim := { program := "ytdmjiokeangmmaa", sum := "860e860c3926afe0ca8166fde831b7d1bd9a3f7eda09cdee6d9f5d7538db12fe", func := "bevy/bevylaw07.BoughRoots", spec := "boughRoots", unfollowed := true, recurses := true, apart := false }
def BoughRootsSaid : Prop := boughRootsRow.holds Try.pinned (OpenSpec.ofChange boughRootsSpec)

/-- ITS FALSE NEIGHBOUR: 'it returns false'. Refute it at one input. -/
def boughRootsWrong : ChangeSpec := { name := "boughRoots", fn := fun _ => fun
  | [d] => { results := [.lit (.bool false)], args := [d] }
  | _ => none }
def BoughRootsWrongFalsely : Prop := boughRootsRow.holds Try.pinned (OpenSpec.ofChange boughRootsWrong)

/-- 'bevylaw07.BoughSides': WHATEVER THE INPUT: true; the input reads as it did. -/
def boughSidesSpec : ChangeSpec := { name := "boughSides", fn := fun _ => fun
  | [d1, d2] => { results := [.lit (.bool true)], args := [d1, d2] }
  | _ => none }
def boughSidesRow : OpenClaim := { program := "ytdmjiokeangmmaa", sum := "860e860c3926afe0ca8166fde831b7d1bd9a3f7eda09cdee6d9f5d7538db12fe", func := "bevy/bevylaw07.BoughSides", spec := "boughSides", unfollowed := true, recurses := true, apart := false }
def BoughSidesSaid : Prop := boughSidesRow.holds Try.pinned (OpenSpec.ofChange boughSidesSpec)

/-- ITS FALSE NEIGHBOUR: 'it returns false'. Refute it at one input. -/
def boughSidesWrong : ChangeSpec := { name := "boughSides", fn := fun _ => fun
  | [d1, d2] => { results := [.lit (.bool false)], args := [d1, d2] }
  | _ => none }
def BoughSidesWrongFalsely : Prop := boughSidesRow.holds Try.pinned (OpenSpec.ofChange boughSidesWrong)

/-- 'bevylaw07.BoughAbove': WHATEVER THE INPUT: true; the input reads as it did. -/
def boughAboveSpec : ChangeSpec := { name := "boughAbove", fn := fun _ => fun
  | [d1, d2] => { results := [.lit (.bool true)], args := [d1, d2] }
  | _ => none }
def boughAboveRow : OpenClaim := { program := "ytdmjiokeangmmaa", sum := "860e860c3926afe0ca8166fde831b7d1bd9a3f7eda09cdee6d9f5d7538db12fe", func := "bevy/bevylaw07.BoughAbove", spec := "boughAbove", unfollowed := true, recurses := true, apart := false }
def BoughAboveSaid : Prop := boughAboveRow.holds Try.pinned (OpenSpec.ofChange boughAboveSpec)

/-- ITS FALSE NEIGHBOUR: 'it returns false'. Refute it at one input. -/
def boughAboveWrong : ChangeSpec := { name := "boughAbove", fn := fun _ => fun
  | [d1, d2] => { results := [.lit (.bool false)], args := [d1, d2] }
  | _ => none }
def BoughAboveWrongFalsely : Prop := boughAboveRow.holds Try.pinned (OpenSpec.ofChange boughAboveWrong)

/-- 'bevylaw07.BoughDirect': WHATEVER THE INPUT: true; the input reads as it did. -/
def boughDirectSpec : ChangeSpec := { name := "boughDirect", fn := fun _ => fun
  | [d1, d2] => { results := [.lit (.bool true)], args := [d1, d2] }
  | _ => none }
def boughDirectRow : OpenClaim := { program := "ytdmjiokeangmmaa", sum := "860e860c3926afe0ca8166fde831b7d1bd9a3f7eda09cdee6d9f5d7538db12fe", func := "bevy/bevylaw07.BoughDirect", spec := "boughDirect", unfollowed := true, recurses := true, apart := false }
def BoughDirectSaid : Prop := boughDirectRow.holds Try.pinned (OpenSpec.ofChange boughDirectSpec)

/-- ITS FALSE NEIGHBOUR: 'it returns false'. Refute it at one input. -/
def boughDirectWrong : ChangeSpec := { name := "boughDirect", fn := fun _ => fun
  | [d1, d2] => { results := [.lit (.bool false)], args := [d1, d2] }
  | _ => none }
def BoughDirectWrongFalsely : Prop := boughDirectRow.holds Try.pinned (OpenSpec.ofChange boughDirectWrong)

/-- 'bevylaw07.BoughCommon': WHATEVER THE INPUT: true; the input reads as it did. -/
def boughCommonSpec : ChangeSpec := { name := "boughCommon", fn := fun _ => fun
  | [d1, d2, d3] => { results := [.lit (.bool true)], args := [d1, d2, d3] }
  | _ => none }
def boughCommonRow : OpenClaim := { program := "ytdmjiokeangmmaa", sum := "860e860c3926afe0ca8166fde831b7d1bd9a3f7eda09cdee6d9f5d7538db12fe", func := "bevy/bevylaw07.BoughCommon", spec := "boughCommon", unfollowed := true, recurses := true, apart := false }
def BoughCommonSaid : Prop := boughCommonRow.holds Try.pinned (OpenSpec.ofChange boughCommonSpec)

/-- ITS FALSE NEIGHBOUR: 'it returns false'. Refute it at one input. -/
def boughCommonWrong : ChangeSpec := { name := "boughCommon", fn := fun _ => fun
  | [d1, d2, d3] => { results := [.lit (.bool false)], args := [d1, d2, d3] }
  | _ => none }
def BoughCommonWrongFalsely : Prop := boughCommonRow.holds Try.pinned (OpenSpec.ofChange boughCommonWrong)

/-- 'bevylaw07.BoughNodes': WHATEVER THE INPUT: true; the input reads as it did. -/
def boughNodesSpec : ChangeSpec := { name := "boughNodes", fn := fun _ => fun
  | [d1, d2] => { results := [.lit (.bool true)], args := [d1, d2] }
  | _ => none }
def boughNodesRow : OpenClaim := { program := "ytdmjiokeangmmaa", sum := "860e860c3926afe0ca8166fde831b7d1bd9a3f7eda09cdee6d9f5d7538db12fe", func := "bevy/bevylaw07.BoughNodes", spec := "boughNodes", unfollowed := true, recurses := true, apart := false }
def BoughNodesSaid : Prop := boughNodesRow.holds Try.pinned (OpenSpec.ofChange boughNodesSpec)

/-- ITS FALSE NEIGHBOUR: 'it returns false'. Refute it at one input. -/
def boughNodesWrong : ChangeSpec := { name := "boughNodes", fn := fun _ => fun
  | [d1, d2] => { results := [.lit (.bool false)], args := [d1, d2] }
  | _ => none }
def BoughNodesWrongFalsely : Prop := boughNodesRow.holds Try.pinned (OpenSpec.ofChange boughNodesWrong)

/-- 'bevylaw07.BoughWhole': WHATEVER THE INPUT: true; the input reads as it did. -/
def boughWholeSpec : ChangeSpec := { name := "boughWhole", fn := fun _ => fun
  | [d] => { results := [.lit (.bool true)], args := [d] }
  | _ => none }
def boughWholeRow : OpenClaim := { program := "ytdmjiokeangmmaa", sum := "860e860c3926afe0ca8166fde831b7d1bd9a3f7eda09cdee6d9f5d7538db12fe", func := "bevy/bevylaw07.BoughWhole", spec := "boughWhole", unfollowed := true, recurses := true, apart := false }
def BoughWholeSaid : Prop := boughWholeRow.holds Try.pinned (OpenSpec.ofChange boughWholeSpec)

/-- ITS FALSE NEIGHBOUR: 'it returns false'. Refute it at one input. -/
def boughWholeWrong : ChangeSpec := { name := "boughWhole", fn := fun _ => fun
  | [d] => { results := [.lit (.bool false)], args := [d] }
  | _ => none }
def BoughWholeWrongFalsely : Prop := boughWholeRow.holds Try.pinned (OpenSpec.ofChange boughWholeWrong)

/- THE SECOND FORM. 'bulk': how many values and letters a reading holds, each counted each time it is reached (what is shared counts as often as it is met; a slice's spare places count too). A statement '..UptoSaid' is the law's where the arguments, and the package variables that the reading takes, are together of bulk at most 1048576: NARROWER than '..Said'. Prove '..Said' where nothing that the law and all that it calls make is longer than what came in: it says more and counts as full. Else prove '..UptoSaid'. A law counts once. -/
mutual
def uptoBulk {H : Type} : DataW H → Nat
  | .lit (.string bytes) => bytes.length + 1
  | .lit _ => 1
  | .nil => 1
  | .ptr d => uptoBulk d + 1
  | .slice elems spare => uptoBulkAll elems + uptoBulkAll spare + 1
  | .agg parts => uptoBulkAll parts + 1
  | .iface _ d => uptoBulk d + 1
  | .map entries => uptoBulkEntries entries + 1
  | .held _ => 1
def uptoBulkAll {H : Type} : List (DataW H) → Nat
  | [] => 0
  | d :: r => uptoBulk d + uptoBulkAll r
def uptoBulkEntries {H : Type} : List (Lit × DataW H) → Nat
  | [] => 0
  | x :: r => uptoBulkEntry x + uptoBulkEntries r
def uptoBulkEntry {H : Type} : Lit × DataW H → Nat
  | (.string bytes, d) => bytes.length + uptoBulk d + 1
  | (_, d) => uptoBulk d + 1
 end
def uptoSmall : (H : Type) → List (DataW H) → Bool := fun _ ds => decide (uptoBulkAll ds ≤ 1048576)
def OpenSpec.upto (s : _root_.Go.ChangeSpec) : _root_.Go.OpenSpec := { _root_.Go.OpenSpec.ofChange s with cond := some uptoSmall }

/-- 'bevylaw07.BoughWays', WHERE WHAT IT READS IS OF BULK AT MOST 1048576: true; the input reads as it did. -/
def boughWaysUptoRow : OpenClaim := { program := "ytdmjiokeangmmaa", sum := "860e860c3926afe0ca8166fde831b7d1bd9a3f7eda09cdee6d9f5d7538db12fe", func := "bevy/bevylaw07.BoughWays", spec := "boughWays", unfollowed := true, recurses := true, apart := false, narrowed := true }
def BoughWaysUptoSaid : Prop := boughWaysUptoRow.holds Try.pinned (OpenSpec.upto boughWaysSpec)

/-- 'bevylaw07.BoughLeaves', WHERE WHAT IT READS IS OF BULK AT MOST 1048576: true; the input reads as it did. -/
def boughLeavesUptoRow : OpenClaim := { program := "ytdmjiokeangmmaa", sum := "860e860c3926afe0ca8166fde831b7d1bd9a3f7eda09cdee6d9f5d7538db12fe", func := "bevy/bevylaw07.BoughLeaves", spec := "boughLeaves", unfollowed := true, recurses := true, apart := false, narrowed := true }
def BoughLeavesUptoSaid : Prop := boughLeavesUptoRow.holds Try.pinned (OpenSpec.upto boughLeavesSpec)

/-- 'bevylaw07.BoughGrows', WHERE WHAT IT READS IS OF BULK AT MOST 1048576: true; the input reads as it did. -/
def boughGrowsUptoRow : OpenClaim := { program := "ytdmjiokeangmmaa", sum := "860e860c3926afe0ca8166fde831b7d1bd9a3f7eda09cdee6d9f5d7538db12fe", func := "bevy/bevylaw07.BoughGrows", spec := "boughGrows", unfollowed := true, recurses := true, apart := false, narrowed := true }
def BoughGrowsUptoSaid : Prop := boughGrowsUptoRow.holds Try.pinned (OpenSpec.upto boughGrowsSpec)

/-- 'bevylaw07.BoughRoots', WHERE WHAT IT READS IS OF BULK AT MOST 1048576: true; the input reads as it did. -/
def boughRootsUptoRow : OpenClaim := { program := "ytdmjiokeangmmaa", sum := "860e860c3926afe0ca8166fde831b7d1bd9a3f7eda09cdee6d9f5d7538db12fe", func := "bevy/bevylaw07.BoughRoots", spec := "boughRoots", unfollowed := true, recurses := true, apart := false, narrowed := true }
def BoughRootsUptoSaid : Prop := boughRootsUptoRow.holds Try.pinned (OpenSpec.upto boughRootsSpec)

/-- 'bevylaw07.BoughSides', WHERE WHAT IT READS IS OF BULK AT MOST 1048576: true; the input reads as it did. -/
def boughSidesUptoRow : OpenClaim := { program := "ytdmjiokeangmmaa", sum := "860e860c3926afe0ca8166fde831b7d1bd9a3f7eda09cdee6d9f5d7538db12fe", func := "bevy/bevylaw07.BoughSides", spec := "boughSides", unfollowed := true, recurses := true, apart := false, narrowed := true }
def BoughSidesUptoSaid : Prop := boughSidesUptoRow.holds Try.pinned (OpenSpec.upto boughSidesSpec)

/-- 'bevylaw07.BoughAbove', WHERE WHAT IT READS IS OF BULK AT MOST 1048576: true; the input reads as it did. -/
def boughAboveUptoRow : OpenClaim := { program := "ytdmjiokeangmmaa", sum := "860e860c3926afe0ca8166fde831b7d1bd9a3f7eda09cdee6d9f5d7538db12fe", func := "bevy/bevylaw07.BoughAbove", spec := "boughAbove", unfollowed := true, recurses := true, apart := false, narrowed := true }
def BoughAboveUptoSaid : Prop := boughAboveUptoRow.holds Try.pinned (OpenSpec.upto boughAboveSpec)

/-- 'bevylaw07.BoughDirect', WHERE WHAT IT READS IS OF BULK AT MOST 1048576: true; the input reads as it did. -/
def boughDirectUptoRow : OpenClaim := { program := "ytdmjiokeangmmaa", sum := "860e860c3926afe0ca8166fde831b7d1bd9a3f7eda09cdee6d9f5d7538db12fe", func := "bevy/bevylaw07.BoughDirect", spec := "boughDirect", unfollowed := true, recurses := true, apart := false, narrowed := true }
def BoughDirectUptoSaid : Prop := boughDirectUptoRow.holds Try.pinned (OpenSpec.upto boughDirectSpec)

/-- 'bevylaw07.BoughCommon', WHERE WHAT IT READS IS OF BULK AT MOST 1048576: true; the input reads as it did. -/
def boughCommonUptoRow : OpenClaim := { program := "ytdmjiokeangmmaa", sum := "860e860c3926afe0ca8166fde831b7d1bd9a3f7eda09cdee6d9f5d7538db12fe", func := "bevy/bevylaw07.BoughCommon", spec := "boughCommon", unfollowed := true, recurses := true, apart := false, narrowed := true }
def BoughCommonUptoSaid : Prop := boughCommonUptoRow.holds Try.pinned (OpenSpec.upto boughCommonSpec)

/-- 'bevylaw07.BoughNodes', WHERE WHAT IT READS IS OF BULK AT MOST 1048576: true; the input reads as it did. -/
def boughNodesUptoRow : OpenClaim := { program := "ytdmjiokeangmmaa", sum := "860e860c3926afe0ca8166fde831b7d1bd9a3f7eda09cdee6d9f5d7538db12fe", func := "bevy/bevylaw07.BoughNodes", spec := "boughNodes", unfollowed := true, recurses := true, apart := false, narrowed := true }
def BoughNodesUptoSaid : Prop := boughNodesUptoRow.holds Try.pinned (OpenSpec.upto boughNodesSpec)

/-- 'bevylaw07.BoughWhole', WHERE WHAT IT READS IS OF BULK AT MOST 1048576: true; the input reads as it did. -/
def boughWholeUptoRow : OpenClaim := { program := "ytdmjiokeangmmaa", sum := "860e860c3926afe0ca8166fde831b7d1bd9a3f7eda09cdee6d9f5d7538db12fe", func := "bevy/bevylaw07.BoughWhole", spec := "boughWhole", unfollowed := true, recurses := true, apart := false, narrowed := true }
def BoughWholeUptoSaid : Prop := boughWholeUptoRow.holds Try.pinned (OpenSpec.upto boughWholeSpec)

end Rows
end Go.Proofs.Ytdmjiokeangmmaa
