/-
  No cell of these rows narrows 'for every input' (looked for: loops, veiled, ifaces, maps, wideKeys, modest, calm, conditions, laid).
  DERIVED. THE GIVEN ROWS OF THIS SEAT. 13 by the template 'for every input the law returns true; each argument reads behind the call as it read before'; 0 by the template 'total and deterministic' (their statements: YtlomofcnknpciaaTotals.lean).
  GIVEN WITH THE SEED: the statements are not yours to turn. If you find one false, say at which input.
  Laid BY PROGRAM, IN A SANDBOX (cutbox-rows.mjs): the forced cells as the released guide's own fill.sh prints them over the translation abb113bd9636416d… (all of the seat's roots in one cut). By AI agents, Wed Nov 11 2026. No macro, syntax, notation, axiom, sorry.
-/
import Derived.Test.YtlomofcnknpciaaChecked
import GoSem.Claim
import GoSem.ClaimJoined
import GoSem.ClaimMapViews
import Derived.JoinedTies
import Derived.KernelRfl
namespace Go.Proofs.Ytlomofcnknpciaa
/- THE CELL 'sum', in the pinned program and in every row, IS THE sha256 OF THE DUMP (.gsa) THAT YtlomofcnknpciaaProg.lean LOADS. Nothing in Lean hashes anything: it is a label: what it is worth is what the hold of that sum in a sandbox is worth. -/
noncomputable def Try.pinned : Pinned := { name := "ytlomofcnknpciaa", sum := "abb113bd9636416d92e33e5f6a80ea08668b953e584eede6f70ee1d507d9c24d", checked := Try.checked }
namespace Rows
def none {H : Type} : Left H := { results := [], args := [] }

/-- 'bevylaw06.PprErased': WHATEVER THE INPUT: true; the input reads as it did. -/
def pprErasedSpec : ChangeSpec := { name := "pprErased", fn := fun _ => fun
  | [d1, d2, d3] => { results := [.lit (.bool true)], args := [d1, d2, d3] }
  | _ => none }
def pprErasedRow : OpenClaim := { program := "ytlomofcnknpciaa", sum := "abb113bd9636416d92e33e5f6a80ea08668b953e584eede6f70ee1d507d9c24d", func := "bevy/bevylaw06.PprErased", spec := "pprErased", unfollowed := true, recurses := true, plainKeys := false, apart := false }
def PprErasedSaid : Prop := pprErasedRow.holds Try.pinned (OpenSpec.ofChange pprErasedSpec)

/-- ITS FALSE NEIGHBOUR: 'it returns false'. Refute it at one input. -/
def pprErasedWrong : ChangeSpec := { name := "pprErased", fn := fun _ => fun
  | [d1, d2, d3] => { results := [.lit (.bool false)], args := [d1, d2, d3] }
  | _ => none }
def PprErasedWrongFalsely : Prop := pprErasedRow.holds Try.pinned (OpenSpec.ofChange pprErasedWrong)

/-- 'bevylaw15.DagHead': WHATEVER THE INPUT: true; the input reads as it did. -/
def dagHeadSpec : ChangeSpec := { name := "dagHead", fn := fun _ => fun
  | [d1, d2] => { results := [.lit (.bool true)], args := [d1, d2] }
  | _ => none }
def dagHeadRow : OpenClaim := { program := "ytlomofcnknpciaa", sum := "abb113bd9636416d92e33e5f6a80ea08668b953e584eede6f70ee1d507d9c24d", func := "bevy/bevylaw15.DagHead", spec := "dagHead", unfollowed := true, recurses := true, plainKeys := false, apart := false }
def DagHeadSaid : Prop := dagHeadRow.holds Try.pinned (OpenSpec.ofChange dagHeadSpec)

/-- ITS FALSE NEIGHBOUR: 'it returns false'. Refute it at one input. -/
def dagHeadWrong : ChangeSpec := { name := "dagHead", fn := fun _ => fun
  | [d1, d2] => { results := [.lit (.bool false)], args := [d1, d2] }
  | _ => none }
def DagHeadWrongFalsely : Prop := dagHeadRow.holds Try.pinned (OpenSpec.ofChange dagHeadWrong)

/-- 'bevylaw15.DagOrders': WHATEVER THE INPUT: true; the input reads as it did. -/
def dagOrdersSpec : ChangeSpec := { name := "dagOrders", fn := fun _ => fun
  | [d1, d2, d3] => { results := [.lit (.bool true)], args := [d1, d2, d3] }
  | _ => none }
def dagOrdersRow : OpenClaim := { program := "ytlomofcnknpciaa", sum := "abb113bd9636416d92e33e5f6a80ea08668b953e584eede6f70ee1d507d9c24d", func := "bevy/bevylaw15.DagOrders", spec := "dagOrders", unfollowed := true, recurses := true, plainKeys := false, apart := false }
def DagOrdersSaid : Prop := dagOrdersRow.holds Try.pinned (OpenSpec.ofChange dagOrdersSpec)

/-- ITS FALSE NEIGHBOUR: 'it returns false'. Refute it at one input. -/
def dagOrdersWrong : ChangeSpec := { name := "dagOrders", fn := fun _ => fun
  | [d1, d2, d3] => { results := [.lit (.bool false)], args := [d1, d2, d3] }
  | _ => none }
def DagOrdersWrongFalsely : Prop := dagOrdersRow.holds Try.pinned (OpenSpec.ofChange dagOrdersWrong)

/-- 'bevylaw19.GleanWants': WHATEVER THE INPUT: true; the input reads as it did. -/
def gleanWantsSpec : ChangeSpec := { name := "gleanWants", fn := fun _ => fun
  | [d1, d2] => { results := [.lit (.bool true)], args := [d1, d2] }
  | _ => none }
def gleanWantsRow : OpenClaim := { program := "ytlomofcnknpciaa", sum := "abb113bd9636416d92e33e5f6a80ea08668b953e584eede6f70ee1d507d9c24d", func := "bevy/bevylaw19.GleanWants", spec := "gleanWants", unfollowed := true, recurses := true, plainKeys := false, apart := false }
def GleanWantsSaid : Prop := gleanWantsRow.holds Try.pinned (OpenSpec.ofChange gleanWantsSpec)

/-- ITS FALSE NEIGHBOUR: 'it returns false'. Refute it at one input. -/
def gleanWantsWrong : ChangeSpec := { name := "gleanWants", fn := fun _ => fun
  | [d1, d2] => { results := [.lit (.bool false)], args := [d1, d2] }
  | _ => none }
def GleanWantsWrongFalsely : Prop := gleanWantsRow.holds Try.pinned (OpenSpec.ofChange gleanWantsWrong)

/-- 'bevylaw19.GleanTells': WHATEVER THE INPUT: true; the input reads as it did. -/
def gleanTellsSpec : ChangeSpec := { name := "gleanTells", fn := fun _ => fun
  | [d] => { results := [.lit (.bool true)], args := [d] }
  | _ => none }
def gleanTellsRow : OpenClaim := { program := "ytlomofcnknpciaa", sum := "abb113bd9636416d92e33e5f6a80ea08668b953e584eede6f70ee1d507d9c24d", func := "bevy/bevylaw19.GleanTells", spec := "gleanTells", unfollowed := true, recurses := true, plainKeys := false, apart := false }
def GleanTellsSaid : Prop := gleanTellsRow.holds Try.pinned (OpenSpec.ofChange gleanTellsSpec)

/-- ITS FALSE NEIGHBOUR: 'it returns false'. Refute it at one input. -/
def gleanTellsWrong : ChangeSpec := { name := "gleanTells", fn := fun _ => fun
  | [d] => { results := [.lit (.bool false)], args := [d] }
  | _ => none }
def GleanTellsWrongFalsely : Prop := gleanTellsRow.holds Try.pinned (OpenSpec.ofChange gleanTellsWrong)

/-- 'bevylaw19.GleanGives': WHATEVER THE INPUT: true; the input reads as it did. -/
def gleanGivesSpec : ChangeSpec := { name := "gleanGives", fn := fun _ => fun
  | [d1, d2] => { results := [.lit (.bool true)], args := [d1, d2] }
  | _ => none }
def gleanGivesRow : OpenClaim := { program := "ytlomofcnknpciaa", sum := "abb113bd9636416d92e33e5f6a80ea08668b953e584eede6f70ee1d507d9c24d", func := "bevy/bevylaw19.GleanGives", spec := "gleanGives", unfollowed := true, recurses := true, plainKeys := false, apart := false }
def GleanGivesSaid : Prop := gleanGivesRow.holds Try.pinned (OpenSpec.ofChange gleanGivesSpec)

/-- ITS FALSE NEIGHBOUR: 'it returns false'. Refute it at one input. -/
def gleanGivesWrong : ChangeSpec := { name := "gleanGives", fn := fun _ => fun
  | [d1, d2] => { results := [.lit (.bool false)], args := [d1, d2] }
  | _ => none }
def GleanGivesWrongFalsely : Prop := gleanGivesRow.holds Try.pinned (OpenSpec.ofChange gleanGivesWrong)

/-- 'bevylaw19.GleanMeets': WHATEVER THE INPUT: true; the input reads as it did. -/
def gleanMeetsSpec : ChangeSpec := { name := "gleanMeets", fn := fun _ => fun
  | [d1, d2] => { results := [.lit (.bool true)], args := [d1, d2] }
  | _ => none }
def gleanMeetsRow : OpenClaim := { program := "ytlomofcnknpciaa", sum := "abb113bd9636416d92e33e5f6a80ea08668b953e584eede6f70ee1d507d9c24d", func := "bevy/bevylaw19.GleanMeets", spec := "gleanMeets", unfollowed := true, recurses := true, plainKeys := false, apart := false }
def GleanMeetsSaid : Prop := gleanMeetsRow.holds Try.pinned (OpenSpec.ofChange gleanMeetsSpec)

/-- ITS FALSE NEIGHBOUR: 'it returns false'. Refute it at one input. -/
def gleanMeetsWrong : ChangeSpec := { name := "gleanMeets", fn := fun _ => fun
  | [d1, d2] => { results := [.lit (.bool false)], args := [d1, d2] }
  | _ => none }
def GleanMeetsWrongFalsely : Prop := gleanMeetsRow.holds Try.pinned (OpenSpec.ofChange gleanMeetsWrong)

/-- 'bevylaw19.GleanAsks': WHATEVER THE INPUT: true; the input reads as it did. -/
def gleanAsksSpec : ChangeSpec := { name := "gleanAsks", fn := fun _ => fun
  | [d1, d2, d3] => { results := [.lit (.bool true)], args := [d1, d2, d3] }
  | _ => none }
def gleanAsksRow : OpenClaim := { program := "ytlomofcnknpciaa", sum := "abb113bd9636416d92e33e5f6a80ea08668b953e584eede6f70ee1d507d9c24d", func := "bevy/bevylaw19.GleanAsks", spec := "gleanAsks", unfollowed := true, recurses := true, plainKeys := false, apart := false }
def GleanAsksSaid : Prop := gleanAsksRow.holds Try.pinned (OpenSpec.ofChange gleanAsksSpec)

/-- ITS FALSE NEIGHBOUR: 'it returns false'. Refute it at one input. -/
def gleanAsksWrong : ChangeSpec := { name := "gleanAsks", fn := fun _ => fun
  | [d1, d2, d3] => { results := [.lit (.bool false)], args := [d1, d2, d3] }
  | _ => none }
def GleanAsksWrongFalsely : Prop := gleanAsksRow.holds Try.pinned (OpenSpec.ofChange gleanAsksWrong)

/-- 'bevylaw06.PprNotes': WHATEVER THE INPUT: true; the input reads as it did. -/
def pprNotesSpec : ChangeSpec := { name := "pprNotes", fn := fun _ => fun
  | [d1, d2, d3, d4] => { results := [.lit (.bool true)], args := [d1, d2, d3, d4] }
  | _ => none }
def pprNotesRow : OpenClaim := { program := "ytlomofcnknpciaa", sum := "abb113bd9636416d92e33e5f6a80ea08668b953e584eede6f70ee1d507d9c24d", func := "bevy/bevylaw06.PprNotes", spec := "pprNotes", unfollowed := true, recurses := true, plainKeys := false, apart := false }
def PprNotesSaid : Prop := pprNotesRow.holds Try.pinned (OpenSpec.ofChange pprNotesSpec)

/-- ITS FALSE NEIGHBOUR: 'it returns false'. Refute it at one input. -/
def pprNotesWrong : ChangeSpec := { name := "pprNotes", fn := fun _ => fun
  | [d1, d2, d3, d4] => { results := [.lit (.bool false)], args := [d1, d2, d3, d4] }
  | _ => none }
def PprNotesWrongFalsely : Prop := pprNotesRow.holds Try.pinned (OpenSpec.ofChange pprNotesWrong)

/-- 'bevylaw05.PrimLearns': WHATEVER THE INPUT: true; the input reads as it did. -/
def primLearnsSpec : ChangeSpec := { name := "primLearns", fn := fun _ => fun
  | [d1, d2] => { results := [.lit (.bool true)], args := [d1, d2] }
  | _ => none }
def primLearnsRow : OpenClaim := { program := "ytlomofcnknpciaa", sum := "abb113bd9636416d92e33e5f6a80ea08668b953e584eede6f70ee1d507d9c24d", func := "bevy/bevylaw05.PrimLearns", spec := "primLearns", unfollowed := true, recurses := true, plainKeys := false, apart := false }
def PrimLearnsSaid : Prop := primLearnsRow.holds Try.pinned (OpenSpec.ofChange primLearnsSpec)

/-- ITS FALSE NEIGHBOUR: 'it returns false'. Refute it at one input. -/
def primLearnsWrong : ChangeSpec := { name := "primLearns", fn := fun _ => fun
  | [d1, d2] => { results := [.lit (.bool false)], args := [d1, d2] }
  | _ => none }
def PrimLearnsWrongFalsely : Prop := primLearnsRow.holds Try.pinned (OpenSpec.ofChange primLearnsWrong)

/-- 'bevylaw19.GleanPackets': WHATEVER THE INPUT: true; the input reads as it did. -/
def gleanPacketsSpec : ChangeSpec := { name := "gleanPackets", fn := fun _ => fun
  | [d] => { results := [.lit (.bool true)], args := [d] }
  | _ => none }
def gleanPacketsRow : OpenClaim := { program := "ytlomofcnknpciaa", sum := "abb113bd9636416d92e33e5f6a80ea08668b953e584eede6f70ee1d507d9c24d", func := "bevy/bevylaw19.GleanPackets", spec := "gleanPackets", unfollowed := true, recurses := true, plainKeys := false, apart := false }
def GleanPacketsSaid : Prop := gleanPacketsRow.holds Try.pinned (OpenSpec.ofChange gleanPacketsSpec)

/-- ITS FALSE NEIGHBOUR: 'it returns false'. Refute it at one input. -/
def gleanPacketsWrong : ChangeSpec := { name := "gleanPackets", fn := fun _ => fun
  | [d] => { results := [.lit (.bool false)], args := [d] }
  | _ => none }
def GleanPacketsWrongFalsely : Prop := gleanPacketsRow.holds Try.pinned (OpenSpec.ofChange gleanPacketsWrong)

/-- 'bevylaw19.GleanReads': WHATEVER THE INPUT: true; the input reads as it did. -/
def gleanReadsSpec : ChangeSpec := { name := "gleanReads", fn := fun _ => fun
  | [d] => { results := [.lit (.bool true)], args := [d] }
  | _ => none }
def gleanReadsRow : OpenClaim := { program := "ytlomofcnknpciaa", sum := "abb113bd9636416d92e33e5f6a80ea08668b953e584eede6f70ee1d507d9c24d", func := "bevy/bevylaw19.GleanReads", spec := "gleanReads", unfollowed := true, recurses := true, plainKeys := false, apart := false }
def GleanReadsSaid : Prop := gleanReadsRow.holds Try.pinned (OpenSpec.ofChange gleanReadsSpec)

/-- ITS FALSE NEIGHBOUR: 'it returns false'. Refute it at one input. -/
def gleanReadsWrong : ChangeSpec := { name := "gleanReads", fn := fun _ => fun
  | [d] => { results := [.lit (.bool false)], args := [d] }
  | _ => none }
def GleanReadsWrongFalsely : Prop := gleanReadsRow.holds Try.pinned (OpenSpec.ofChange gleanReadsWrong)

/-- 'bevylaw05.PrimNotes': WHATEVER THE INPUT: true; the input reads as it did. -/
def primNotesSpec : ChangeSpec := { name := "primNotes", fn := fun _ => fun
  | [d1, d2] => { results := [.lit (.bool true)], args := [d1, d2] }
  | _ => none }
def primNotesRow : OpenClaim := { program := "ytlomofcnknpciaa", sum := "abb113bd9636416d92e33e5f6a80ea08668b953e584eede6f70ee1d507d9c24d", func := "bevy/bevylaw05.PrimNotes", spec := "primNotes", unfollowed := true, recurses := true, plainKeys := false, apart := false }
def PrimNotesSaid : Prop := primNotesRow.holds Try.pinned (OpenSpec.ofChange primNotesSpec)

/-- ITS FALSE NEIGHBOUR: 'it returns false'. Refute it at one input. -/
def primNotesWrong : ChangeSpec := { name := "primNotes", fn := fun _ => fun
  | [d1, d2] => { results := [.lit (.bool false)], args := [d1, d2] }
  | _ => none }
def PrimNotesWrongFalsely : Prop := primNotesRow.holds Try.pinned (OpenSpec.ofChange primNotesWrong)

/- THE SECOND FORM. 'bulk': how many values and letters a reading holds, each counted each time it is reached (what is shared counts as often as it is met; a slice's spare places count too). A statement '..UptoSaid' is the law's where the arguments, and the package variables that the reading takes, are together of bulk at most 1048576: NARROWER than '..Said'. Prove '..Said' where nothing that the law and all that it calls make is longer than what came in: it says more and counts as full. Else prove '..UptoSaid'. A law counts once. -/
mutual
def uptoBulk {H : Type} : DataW H → Nat
  | .lit (.string bytes) => bytes.length + 1
  | .lit _ => 1
  | .nil => 1
  | .ptr d => uptoBulk d + 1
  | .slice elems spare => uptoBulkAll elems + uptoBulkAll spare + 1
  | .agg parts => uptoBulkAll parts + 1
  | .iface _ d => uptoBulk d + 1
  | .map entries => uptoBulkEntries entries + 1
  | .held _ => 1
def uptoBulkAll {H : Type} : List (DataW H) → Nat
  | [] => 0
  | d :: r => uptoBulk d + uptoBulkAll r
def uptoBulkEntries {H : Type} : List (Lit × DataW H) → Nat
  | [] => 0
  | x :: r => uptoBulkEntry x + uptoBulkEntries r
def uptoBulkEntry {H : Type} : Lit × DataW H → Nat
  | (.string bytes, d) => bytes.length + uptoBulk d + 1
  | (_, d) => uptoBulk d + 1
 end
def uptoSmall : (H : Type) → List (DataW H) → Bool := fun _ ds => decide (uptoBulkAll ds ≤ 1048576)
def OpenSpec.upto (s : _root_.Go.ChangeSpec) : _root_.Go.OpenSpec := { _root_.Go.OpenSpec.ofChange s with cond := some uptoSmall }

/-- 'bevylaw06.PprErased', WHERE WHAT IT READS IS OF BULK AT MOST 1048576: true; the input reads as it did. -/
def pprErasedUptoRow : OpenClaim := { program := "ytlomofcnknpciaa", sum := "abb113bd9636416d92e33e5f6a80ea08668b953e584eede6f70ee1d507d9c24d", func := "bevy/bevylaw06.PprErased", spec := "pprErased", unfollowed := true, recurses := true, plainKeys := false, apart := false, narrowed := true }
def PprErasedUptoSaid : Prop := pprErasedUptoRow.holds Try.pinned (OpenSpec.upto pprErasedSpec)

/-- 'bevylaw15.DagHead', WHERE WHAT IT READS IS OF BULK AT MOST 1048576: true; the input reads as it did. -/
def dagHeadUptoRow : OpenClaim := { program := "ytlomofcnknpciaa", sum := "abb113bd9636416d92e33e5f6a80ea08668b953e584eede6f70ee1d507d9c24d", func := "bevy/bevylaw15.DagHead", spec := "dagHead", unfollowed := true, recurses := true, plainKeys := false, apart := false, narrowed := true }
def DagHeadUptoSaid : Prop := dagHeadUptoRow.holds Try.pinned (OpenSpec.upto dagHeadSpec)

/-- 'bevylaw15.DagOrders', WHERE WHAT IT READS IS OF BULK AT MOST 1048576: true; the input reads as it did. -/
def dagOrdersUptoRow : OpenClaim := { program := "ytlomofcnknpciaa", sum := "abb113bd9636416d92e33e5f6a80ea08668b953e584eede6f70ee1d507d9c24d", func := "bevy/bevylaw15.DagOrders", spec := "dagOrders", unfollowed := true, recurses := true, plainKeys := false, apart := false, narrowed := true }
def DagOrdersUptoSaid : Prop := dagOrdersUptoRow.holds Try.pinned (OpenSpec.upto dagOrdersSpec)

/-- 'bevylaw19.GleanWants', WHERE WHAT IT READS IS OF BULK AT MOST 1048576: true; the input reads as it did. -/
def gleanWantsUptoRow : OpenClaim := { program := "ytlomofcnknpciaa", sum := "abb113bd9636416d92e33e5f6a80ea08668b953e584eede6f70ee1d507d9c24d", func := "bevy/bevylaw19.GleanWants", spec := "gleanWants", unfollowed := true, recurses := true, plainKeys := false, apart := false, narrowed := true }
def GleanWantsUptoSaid : Prop := gleanWantsUptoRow.holds Try.pinned (OpenSpec.upto gleanWantsSpec)

/-- 'bevylaw19.GleanTells', WHERE WHAT IT READS IS OF BULK AT MOST 1048576: true; the input reads as it did. -/
def gleanTellsUptoRow : OpenClaim := { program := "ytlomofcnknpciaa", sum := "abb113bd9636416d92e33e5f6a80ea08668b953e584eede6f70ee1d507d9c24d", func := "bevy/bevylaw19.GleanTells", spec := "gleanTells", unfollowed := true, recurses := true, plainKeys := false, apart := false, narrowed := true }
def GleanTellsUptoSaid : Prop := gleanTellsUptoRow.holds Try.pinned (OpenSpec.upto gleanTellsSpec)

/-- 'bevylaw19.GleanGives', WHERE WHAT IT READS IS OF BULK AT MOST 1048576: true; the input reads as it did. -/
def gleanGivesUptoRow : OpenClaim := { program := "ytlomofcnknpciaa", sum := "abb113bd9636416d92e33e5f6a80ea08668b953e584eede6f70ee1d507d9c24d", func := "bevy/bevylaw19.GleanGives", spec := "gleanGives", unfollowed := true, recurses := true, plainKeys := false, apart := false, narrowed := true }
def GleanGivesUptoSaid : Prop := gleanGivesUptoRow.holds Try.pinned (OpenSpec.upto gleanGivesSpec)

/-- 'bevylaw19.GleanMeets', WHERE WHAT IT READS IS OF BULK AT MOST 1048576: true; the input reads as it did. -/
def gleanMeetsUptoRow : OpenClaim := { program := "ytlomofcnknpciaa", sum := "abb113bd9636416d92e33e5f6a80ea08668b953e584eede6f70ee1d507d9c24d", func := "bevy/bevylaw19.GleanMeets", spec := "gleanMeets", unfollowed := true, recurses := true, plainKeys := false, apart := false, narrowed := true }
def GleanMeetsUptoSaid : Prop := gleanMeetsUptoRow.holds Try.pinned (OpenSpec.upto gleanMeetsSpec)

/-- 'bevylaw19.GleanAsks', WHERE WHAT IT READS IS OF BULK AT MOST 1048576: true; the input reads as it did. -/
def gleanAsksUptoRow : OpenClaim := { program := "ytlomofcnknpciaa", sum := "abb113bd9636416d92e33e5f6a80ea08668b953e584eede6f70ee1d507d9c24d", func := "bevy/bevylaw19.GleanAsks", spec := "gleanAsks", unfollowed := true, recurses := true, plainKeys := false, apart := false, narrowed := true }
def GleanAsksUptoSaid : Prop := gleanAsksUptoRow.holds Try.pinned (OpenSpec.upto gleanAsksSpec)

/-- 'bevylaw06.PprNotes', WHERE WHAT IT READS IS OF BULK AT MOST 1048576: true; the input reads as it did. -/
def pprNotesUptoRow : OpenClaim := { program := "ytlomofcnknpciaa", sum := "abb113bd9636416d92e33e5f6a80ea08668b953e584eede6f70ee1d507d9c24d", func := "bevy/bevylaw06.PprNotes", spec := "pprNotes", unfollowed := true, recurses := true, plainKeys := false, apart := false, narrowed := true }
def PprNotesUptoSaid : Prop := pprNotesUptoRow.holds Try.pinned (OpenSpec.upto pprNotesSpec)

/-- 'bevylaw05.PrimLearns', WHERE WHAT IT READS IS OF BULK AT MOST 1048576: true; the input reads as it did. -/
def primLearnsUptoRow : OpenClaim := { program := "ytlomofcnknpciaa", sum := "abb113bd9636416d92e33e5f6a80ea08668b953e584eede6f70ee1d507d9c24d", func := "bevy/bevylaw05.PrimLearns", spec := "primLearns", unfollowed := true, recurses := true, plainKeys := false, apart := false, narrowed := true }
def PrimLearnsUptoSaid : Prop := primLearnsUptoRow.holds Try.pinned (OpenSpec.upto primLearnsSpec)

/-- 'bevylaw19.GleanPackets', WHERE WHAT IT READS IS OF BULK AT MOST 1048576: true; the input reads as it did. -/
def gleanPacketsUptoRow : OpenClaim := { program := "ytlomofcnknpciaa", sum := "abb113bd9636416d92e33e5f6a80ea08668b953e584eede6f70ee1d507d9c24d", func := "bevy/bevylaw19.GleanPackets", spec := "gleanPackets", unfollowed := true, recurses := true, plainKeys := false, apart := false, narrowed := true }
def GleanPacketsUptoSaid : Prop := gleanPacketsUptoRow.holds Try.pinned (OpenSpec.upto gleanPacketsSpec)

/-- 'bevylaw19.GleanReads', WHERE WHAT IT READS IS OF BULK AT MOST 1048576: true; the input reads as it did. -/
def gleanReadsUptoRow : OpenClaim := { program := "ytlomofcnknpciaa", sum := "abb113bd9636416d92e33e5f6a80ea08668b953e584eede6f70ee1d507d9c24d", func := "bevy/bevylaw19.GleanReads", spec := "gleanReads", unfollowed := true, recurses := true, plainKeys := false, apart := false, narrowed := true }
def GleanReadsUptoSaid : Prop := gleanReadsUptoRow.holds Try.pinned (OpenSpec.upto gleanReadsSpec)

/-- 'bevylaw05.PrimNotes', WHERE WHAT IT READS IS OF BULK AT MOST 1048576: true; the input reads as it did. -/
def primNotesUptoRow : OpenClaim := { program := "ytlomofcnknpciaa", sum := "abb113bd9636416d92e33e5f6a80ea08668b953e584eede6f70ee1d507d9c24d", func := "bevy/bevylaw05.PrimNotes", spec := "primNotes", unfollowed := true, recurses := true, plainKeys := false, apart := false, narrowed := true }
def PrimNotesUptoSaid : Prop := primNotesUptoRow.holds Try.pinned (OpenSpec.upto primNotesSpec)

end Rows
end Go.Proofs.Ytlomofcnknpciaa
