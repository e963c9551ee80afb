/-
  No cell of these rows narrows 'for every input' (looked for: loops, veiled, ifaces, maps, wideKeys, modest, calm, conditions, laid).
  DERIVED. THE GIVEN ROWS OF THIS SEAT. 22 by the template 'for every input the law returns true; each argument reads behind the call as it read before'; 0 by the template 'total and deterministic' (their statements: YtnfegmcdljejnaaTotals.lean).
  GIVEN WITH THE SEED: the statements are not yours to turn. If you find one false, say at which input.
  Laid BY PROGRAM, IN A SANDBOX (cutbox-rows.mjs): the forced cells as the released guide's own fill.sh prints them over the translation cab60b095e88a392… (all of the seat's roots in one cut). By AI agents, Wed Nov 11 2026. No macro, syntax, notation, axiom, sorry.
-/
import Derived.Test.YtnfegmcdljejnaaChecked
import GoSem.Claim
import GoSem.ClaimJoined
import GoSem.ClaimMapViews
import Derived.JoinedTies
import Derived.KernelRfl
namespace Go.Proofs.Ytnfegmcdljejnaa
/- THE CELL 'sum', in the pinned program and in every row, IS THE sha256 OF THE DUMP (.gsa) THAT YtnfegmcdljejnaaProg.lean LOADS. Nothing in Lean hashes anything: it is a label: what it is worth is what the hold of that sum in a sandbox is worth. -/
noncomputable def Try.pinned : Pinned := { name := "ytnfegmcdljejnaa", sum := "cab60b095e88a3926c32c77cfaa5112bc74b2e4edab5947d4559d9e6162977af", checked := Try.checked }
namespace Rows
def none {H : Type} : Left H := { results := [], args := [] }

/-- 'bevylaw11.KeysTags': WHATEVER THE INPUT: true; the input reads as it did. -/
def keysTagsSpec : ChangeSpec := { name := "keysTags", fn := fun _ => fun
  | [d1, d2] => { results := [.lit (.bool true)], args := [d1, d2] }
  | _ => none }
def keysTagsRow : OpenClaim := { program := "ytnfegmcdljejnaa", sum := "cab60b095e88a3926c32c77cfaa5112bc74b2e4edab5947d4559d9e6162977af", func := "bevy/bevylaw11.KeysTags", spec := "keysTags", plainKeys := false, apart := false }
def KeysTagsSaid : Prop := keysTagsRow.holds Try.pinned (OpenSpec.ofChange keysTagsSpec)

/-- ITS FALSE NEIGHBOUR: 'it returns false'. Refute it at one input. -/
def keysTagsWrong : ChangeSpec := { name := "keysTags", fn := fun _ => fun
  | [d1, d2] => { results := [.lit (.bool false)], args := [d1, d2] }
  | _ => none }
def KeysTagsWrongFalsely : Prop := keysTagsRow.holds Try.pinned (OpenSpec.ofChange keysTagsWrong)

/-- 'bevylaw11.KeysSpots': WHATEVER THE INPUT: true; the input reads as it did. -/
def keysSpotsSpec : ChangeSpec := { name := "keysSpots", fn := fun _ => fun
  | [d] => { results := [.lit (.bool true)], args := [d] }
  | _ => none }
def keysSpotsRow : OpenClaim := { program := "ytnfegmcdljejnaa", sum := "cab60b095e88a3926c32c77cfaa5112bc74b2e4edab5947d4559d9e6162977af", func := "bevy/bevylaw11.KeysSpots", spec := "keysSpots", plainKeys := false, apart := false }
def KeysSpotsSaid : Prop := keysSpotsRow.holds Try.pinned (OpenSpec.ofChange keysSpotsSpec)

/-- ITS FALSE NEIGHBOUR: 'it returns false'. Refute it at one input. -/
def keysSpotsWrong : ChangeSpec := { name := "keysSpots", fn := fun _ => fun
  | [d] => { results := [.lit (.bool false)], args := [d] }
  | _ => none }
def KeysSpotsWrongFalsely : Prop := keysSpotsRow.holds Try.pinned (OpenSpec.ofChange keysSpotsWrong)

/-- 'bevylaw11.KeysMakes': WHATEVER THE INPUT: true; the input reads as it did. -/
def keysMakesSpec : ChangeSpec := { name := "keysMakes", fn := fun _ => fun
  | [d1, d2, d3] => { results := [.lit (.bool true)], args := [d1, d2, d3] }
  | _ => none }
def keysMakesRow : OpenClaim := { program := "ytnfegmcdljejnaa", sum := "cab60b095e88a3926c32c77cfaa5112bc74b2e4edab5947d4559d9e6162977af", func := "bevy/bevylaw11.KeysMakes", spec := "keysMakes", plainKeys := false, apart := false }
def KeysMakesSaid : Prop := keysMakesRow.holds Try.pinned (OpenSpec.ofChange keysMakesSpec)

/-- ITS FALSE NEIGHBOUR: 'it returns false'. Refute it at one input. -/
def keysMakesWrong : ChangeSpec := { name := "keysMakes", fn := fun _ => fun
  | [d1, d2, d3] => { results := [.lit (.bool false)], args := [d1, d2, d3] }
  | _ => none }
def KeysMakesWrongFalsely : Prop := keysMakesRow.holds Try.pinned (OpenSpec.ofChange keysMakesWrong)

/-- 'bevylaw11.KeysRoots': WHATEVER THE INPUT: true; the input reads as it did. -/
def keysRootsSpec : ChangeSpec := { name := "keysRoots", fn := fun _ => fun
  | [d1, d2] => { results := [.lit (.bool true)], args := [d1, d2] }
  | _ => none }
def keysRootsRow : OpenClaim := { program := "ytnfegmcdljejnaa", sum := "cab60b095e88a3926c32c77cfaa5112bc74b2e4edab5947d4559d9e6162977af", func := "bevy/bevylaw11.KeysRoots", spec := "keysRoots", plainKeys := false, apart := false }
def KeysRootsSaid : Prop := keysRootsRow.holds Try.pinned (OpenSpec.ofChange keysRootsSpec)

/-- ITS FALSE NEIGHBOUR: 'it returns false'. Refute it at one input. -/
def keysRootsWrong : ChangeSpec := { name := "keysRoots", fn := fun _ => fun
  | [d1, d2] => { results := [.lit (.bool false)], args := [d1, d2] }
  | _ => none }
def KeysRootsWrongFalsely : Prop := keysRootsRow.holds Try.pinned (OpenSpec.ofChange keysRootsWrong)

/-- 'bevylaw06.PprStays': WHATEVER THE INPUT: true; the input reads as it did. -/
def pprStaysSpec : ChangeSpec := { name := "pprStays", fn := fun _ => fun
  | [d1, d2, d3, d4] => { results := [.lit (.bool true)], args := [d1, d2, d3, d4] }
  | _ => none }
def pprStaysRow : OpenClaim := { program := "ytnfegmcdljejnaa", sum := "cab60b095e88a3926c32c77cfaa5112bc74b2e4edab5947d4559d9e6162977af", func := "bevy/bevylaw06.PprStays", spec := "pprStays", plainKeys := false, apart := false }
def PprStaysSaid : Prop := pprStaysRow.holds Try.pinned (OpenSpec.ofChange pprStaysSpec)

/-- ITS FALSE NEIGHBOUR: 'it returns false'. Refute it at one input. -/
def pprStaysWrong : ChangeSpec := { name := "pprStays", fn := fun _ => fun
  | [d1, d2, d3, d4] => { results := [.lit (.bool false)], args := [d1, d2, d3, d4] }
  | _ => none }
def PprStaysWrongFalsely : Prop := pprStaysRow.holds Try.pinned (OpenSpec.ofChange pprStaysWrong)

/-- 'bevylaw06.PprKeys': WHATEVER THE INPUT: true; the input reads as it did. -/
def pprKeysSpec : ChangeSpec := { name := "pprKeys", fn := fun _ => fun
  | [d1, d2, d3] => { results := [.lit (.bool true)], args := [d1, d2, d3] }
  | _ => none }
def pprKeysRow : OpenClaim := { program := "ytnfegmcdljejnaa", sum := "cab60b095e88a3926c32c77cfaa5112bc74b2e4edab5947d4559d9e6162977af", func := "bevy/bevylaw06.PprKeys", spec := "pprKeys", plainKeys := false, apart := false }
def PprKeysSaid : Prop := pprKeysRow.holds Try.pinned (OpenSpec.ofChange pprKeysSpec)

/-- ITS FALSE NEIGHBOUR: 'it returns false'. Refute it at one input. -/
def pprKeysWrong : ChangeSpec := { name := "pprKeys", fn := fun _ => fun
  | [d1, d2, d3] => { results := [.lit (.bool false)], args := [d1, d2, d3] }
  | _ => none }
def PprKeysWrongFalsely : Prop := pprKeysRow.holds Try.pinned (OpenSpec.ofChange pprKeysWrong)

/-- 'bevylaw11.KeysSaid': WHATEVER THE INPUT: true; the input reads as it did. -/
def keysSaidSpec : ChangeSpec := { name := "keysSaid", fn := fun _ => fun
  | [d1, d2, d3, d4, d5] => { results := [.lit (.bool true)], args := [d1, d2, d3, d4, d5] }
  | _ => none }
def keysSaidRow : OpenClaim := { program := "ytnfegmcdljejnaa", sum := "cab60b095e88a3926c32c77cfaa5112bc74b2e4edab5947d4559d9e6162977af", func := "bevy/bevylaw11.KeysSaid", spec := "keysSaid", plainKeys := false, apart := false }
def KeysSaidSaid : Prop := keysSaidRow.holds Try.pinned (OpenSpec.ofChange keysSaidSpec)

/-- ITS FALSE NEIGHBOUR: 'it returns false'. Refute it at one input. -/
def keysSaidWrong : ChangeSpec := { name := "keysSaid", fn := fun _ => fun
  | [d1, d2, d3, d4, d5] => { results := [.lit (.bool false)], args := [d1, d2, d3, d4, d5] }
  | _ => none }
def KeysSaidWrongFalsely : Prop := keysSaidRow.holds Try.pinned (OpenSpec.ofChange keysSaidWrong)

/-- 'bevylaw05.PrimSeals': WHATEVER THE INPUT: true; the input reads as it did. -/
def primSealsSpec : ChangeSpec := { name := "primSeals", fn := fun _ => fun
  | [d1, d2, d3] => { results := [.lit (.bool true)], args := [d1, d2, d3] }
  | _ => none }
def primSealsRow : OpenClaim := { program := "ytnfegmcdljejnaa", sum := "cab60b095e88a3926c32c77cfaa5112bc74b2e4edab5947d4559d9e6162977af", func := "bevy/bevylaw05.PrimSeals", spec := "primSeals", plainKeys := false, apart := false }
def PrimSealsSaid : Prop := primSealsRow.holds Try.pinned (OpenSpec.ofChange primSealsSpec)

/-- ITS FALSE NEIGHBOUR: 'it returns false'. Refute it at one input. -/
def primSealsWrong : ChangeSpec := { name := "primSeals", fn := fun _ => fun
  | [d1, d2, d3] => { results := [.lit (.bool false)], args := [d1, d2, d3] }
  | _ => none }
def PrimSealsWrongFalsely : Prop := primSealsRow.holds Try.pinned (OpenSpec.ofChange primSealsWrong)

/-- 'bevylaw05.PrimOpens': WHATEVER THE INPUT: true; the input reads as it did. -/
def primOpensSpec : ChangeSpec := { name := "primOpens", fn := fun _ => fun
  | [d1, d2, d3] => { results := [.lit (.bool true)], args := [d1, d2, d3] }
  | _ => none }
def primOpensRow : OpenClaim := { program := "ytnfegmcdljejnaa", sum := "cab60b095e88a3926c32c77cfaa5112bc74b2e4edab5947d4559d9e6162977af", func := "bevy/bevylaw05.PrimOpens", spec := "primOpens", plainKeys := false, apart := false }
def PrimOpensSaid : Prop := primOpensRow.holds Try.pinned (OpenSpec.ofChange primOpensSpec)

/-- ITS FALSE NEIGHBOUR: 'it returns false'. Refute it at one input. -/
def primOpensWrong : ChangeSpec := { name := "primOpens", fn := fun _ => fun
  | [d1, d2, d3] => { results := [.lit (.bool false)], args := [d1, d2, d3] }
  | _ => none }
def PrimOpensWrongFalsely : Prop := primOpensRow.holds Try.pinned (OpenSpec.ofChange primOpensWrong)

/-- 'bevylaw05.PrimWraps': WHATEVER THE INPUT: true; the input reads as it did. -/
def primWrapsSpec : ChangeSpec := { name := "primWraps", fn := fun _ => fun
  | [d1, d2, d3, d4] => { results := [.lit (.bool true)], args := [d1, d2, d3, d4] }
  | _ => none }
def primWrapsRow : OpenClaim := { program := "ytnfegmcdljejnaa", sum := "cab60b095e88a3926c32c77cfaa5112bc74b2e4edab5947d4559d9e6162977af", func := "bevy/bevylaw05.PrimWraps", spec := "primWraps", plainKeys := false, apart := false }
def PrimWrapsSaid : Prop := primWrapsRow.holds Try.pinned (OpenSpec.ofChange primWrapsSpec)

/-- ITS FALSE NEIGHBOUR: 'it returns false'. Refute it at one input. -/
def primWrapsWrong : ChangeSpec := { name := "primWraps", fn := fun _ => fun
  | [d1, d2, d3, d4] => { results := [.lit (.bool false)], args := [d1, d2, d3, d4] }
  | _ => none }
def PrimWrapsWrongFalsely : Prop := primWrapsRow.holds Try.pinned (OpenSpec.ofChange primWrapsWrong)

/-- 'bevylaw05.PrimPubs': WHATEVER THE INPUT: true; the input reads as it did. -/
def primPubsSpec : ChangeSpec := { name := "primPubs", fn := fun _ => fun
  | [d] => { results := [.lit (.bool true)], args := [d] }
  | _ => none }
def primPubsRow : OpenClaim := { program := "ytnfegmcdljejnaa", sum := "cab60b095e88a3926c32c77cfaa5112bc74b2e4edab5947d4559d9e6162977af", func := "bevy/bevylaw05.PrimPubs", spec := "primPubs", plainKeys := false, apart := false }
def PrimPubsSaid : Prop := primPubsRow.holds Try.pinned (OpenSpec.ofChange primPubsSpec)

/-- ITS FALSE NEIGHBOUR: 'it returns false'. Refute it at one input. -/
def primPubsWrong : ChangeSpec := { name := "primPubs", fn := fun _ => fun
  | [d] => { results := [.lit (.bool false)], args := [d] }
  | _ => none }
def PrimPubsWrongFalsely : Prop := primPubsRow.holds Try.pinned (OpenSpec.ofChange primPubsWrong)

/-- 'bevylaw05.PrimChecks': WHATEVER THE INPUT: true; the input reads as it did. -/
def primChecksSpec : ChangeSpec := { name := "primChecks", fn := fun _ => fun
  | [d1, d2, d3] => { results := [.lit (.bool true)], args := [d1, d2, d3] }
  | _ => none }
def primChecksRow : OpenClaim := { program := "ytnfegmcdljejnaa", sum := "cab60b095e88a3926c32c77cfaa5112bc74b2e4edab5947d4559d9e6162977af", func := "bevy/bevylaw05.PrimChecks", spec := "primChecks", plainKeys := false, apart := false }
def PrimChecksSaid : Prop := primChecksRow.holds Try.pinned (OpenSpec.ofChange primChecksSpec)

/-- ITS FALSE NEIGHBOUR: 'it returns false'. Refute it at one input. -/
def primChecksWrong : ChangeSpec := { name := "primChecks", fn := fun _ => fun
  | [d1, d2, d3] => { results := [.lit (.bool false)], args := [d1, d2, d3] }
  | _ => none }
def PrimChecksWrongFalsely : Prop := primChecksRow.holds Try.pinned (OpenSpec.ofChange primChecksWrong)

/-- 'bevylaw05.PrimKeys': WHATEVER THE INPUT: true; the input reads as it did. -/
def primKeysSpec : ChangeSpec := { name := "primKeys", fn := fun _ => fun
  | [d1, d2, d3, d4, d5] => { results := [.lit (.bool true)], args := [d1, d2, d3, d4, d5] }
  | _ => none }
def primKeysRow : OpenClaim := { program := "ytnfegmcdljejnaa", sum := "cab60b095e88a3926c32c77cfaa5112bc74b2e4edab5947d4559d9e6162977af", func := "bevy/bevylaw05.PrimKeys", spec := "primKeys", plainKeys := false, apart := false }
def PrimKeysSaid : Prop := primKeysRow.holds Try.pinned (OpenSpec.ofChange primKeysSpec)

/-- ITS FALSE NEIGHBOUR: 'it returns false'. Refute it at one input. -/
def primKeysWrong : ChangeSpec := { name := "primKeys", fn := fun _ => fun
  | [d1, d2, d3, d4, d5] => { results := [.lit (.bool false)], args := [d1, d2, d3, d4, d5] }
  | _ => none }
def PrimKeysWrongFalsely : Prop := primKeysRow.holds Try.pinned (OpenSpec.ofChange primKeysWrong)

/-- 'bevylaw06.PprErased': WHATEVER THE INPUT: true; the input reads as it did. -/
def pprErasedSpec : ChangeSpec := { name := "pprErased", fn := fun _ => fun
  | [d1, d2, d3] => { results := [.lit (.bool true)], args := [d1, d2, d3] }
  | _ => none }
def pprErasedRow : OpenClaim := { program := "ytnfegmcdljejnaa", sum := "cab60b095e88a3926c32c77cfaa5112bc74b2e4edab5947d4559d9e6162977af", func := "bevy/bevylaw06.PprErased", spec := "pprErased", unfollowed := true, recurses := true, plainKeys := false, apart := false }
def PprErasedSaid : Prop := pprErasedRow.holds Try.pinned (OpenSpec.ofChange pprErasedSpec)

/-- ITS FALSE NEIGHBOUR: 'it returns false'. Refute it at one input. -/
def pprErasedWrong : ChangeSpec := { name := "pprErased", fn := fun _ => fun
  | [d1, d2, d3] => { results := [.lit (.bool false)], args := [d1, d2, d3] }
  | _ => none }
def PprErasedWrongFalsely : Prop := pprErasedRow.holds Try.pinned (OpenSpec.ofChange pprErasedWrong)

/-- 'bevylaw06.PprTakes': WHATEVER THE INPUT: true; the input reads as it did. -/
def pprTakesSpec : ChangeSpec := { name := "pprTakes", fn := fun _ => fun
  | [d1, d2, d3] => { results := [.lit (.bool true)], args := [d1, d2, d3] }
  | _ => none }
def pprTakesRow : OpenClaim := { program := "ytnfegmcdljejnaa", sum := "cab60b095e88a3926c32c77cfaa5112bc74b2e4edab5947d4559d9e6162977af", func := "bevy/bevylaw06.PprTakes", spec := "pprTakes", recurses := true, plainKeys := false, apart := false }
def PprTakesSaid : Prop := pprTakesRow.holds Try.pinned (OpenSpec.ofChange pprTakesSpec)

/-- ITS FALSE NEIGHBOUR: 'it returns false'. Refute it at one input. -/
def pprTakesWrong : ChangeSpec := { name := "pprTakes", fn := fun _ => fun
  | [d1, d2, d3] => { results := [.lit (.bool false)], args := [d1, d2, d3] }
  | _ => none }
def PprTakesWrongFalsely : Prop := pprTakesRow.holds Try.pinned (OpenSpec.ofChange pprTakesWrong)

/-- 'bevylaw06.PprPlays': WHATEVER THE INPUT: true; the input reads as it did. -/
def pprPlaysSpec : ChangeSpec := { name := "pprPlays", fn := fun _ => fun
  | [d1, d2, d3] => { results := [.lit (.bool true)], args := [d1, d2, d3] }
  | _ => none }
def pprPlaysRow : OpenClaim := { program := "ytnfegmcdljejnaa", sum := "cab60b095e88a3926c32c77cfaa5112bc74b2e4edab5947d4559d9e6162977af", func := "bevy/bevylaw06.PprPlays", spec := "pprPlays", recurses := true, plainKeys := false, apart := false }
def PprPlaysSaid : Prop := pprPlaysRow.holds Try.pinned (OpenSpec.ofChange pprPlaysSpec)

/-- ITS FALSE NEIGHBOUR: 'it returns false'. Refute it at one input. -/
def pprPlaysWrong : ChangeSpec := { name := "pprPlays", fn := fun _ => fun
  | [d1, d2, d3] => { results := [.lit (.bool false)], args := [d1, d2, d3] }
  | _ => none }
def PprPlaysWrongFalsely : Prop := pprPlaysRow.holds Try.pinned (OpenSpec.ofChange pprPlaysWrong)

/-- 'bevylaw06.PprNil': WHATEVER THE INPUT: true; the input reads as it did. -/
def pprNilSpec : ChangeSpec := { name := "pprNil", fn := fun _ => fun
  | [d] => { results := [.lit (.bool true)], args := [d] }
  | _ => none }
def pprNilRow : OpenClaim := { program := "ytnfegmcdljejnaa", sum := "cab60b095e88a3926c32c77cfaa5112bc74b2e4edab5947d4559d9e6162977af", func := "bevy/bevylaw06.PprNil", spec := "pprNil", plainKeys := false, apart := false }
def PprNilSaid : Prop := pprNilRow.holds Try.pinned (OpenSpec.ofChange pprNilSpec)

/-- ITS FALSE NEIGHBOUR: 'it returns false'. Refute it at one input. -/
def pprNilWrong : ChangeSpec := { name := "pprNil", fn := fun _ => fun
  | [d] => { results := [.lit (.bool false)], args := [d] }
  | _ => none }
def PprNilWrongFalsely : Prop := pprNilRow.holds Try.pinned (OpenSpec.ofChange pprNilWrong)

/-- 'bevylaw06.PprUnpacks': WHATEVER THE INPUT: true; the input reads as it did. -/
def pprUnpacksSpec : ChangeSpec := { name := "pprUnpacks", fn := fun _ => fun
  | [d1, d2, d3] => { results := [.lit (.bool true)], args := [d1, d2, d3] }
  | _ => none }
def pprUnpacksRow : OpenClaim := { program := "ytnfegmcdljejnaa", sum := "cab60b095e88a3926c32c77cfaa5112bc74b2e4edab5947d4559d9e6162977af", func := "bevy/bevylaw06.PprUnpacks", spec := "pprUnpacks", plainKeys := false, apart := false }
def PprUnpacksSaid : Prop := pprUnpacksRow.holds Try.pinned (OpenSpec.ofChange pprUnpacksSpec)

/-- ITS FALSE NEIGHBOUR: 'it returns false'. Refute it at one input. -/
def pprUnpacksWrong : ChangeSpec := { name := "pprUnpacks", fn := fun _ => fun
  | [d1, d2, d3] => { results := [.lit (.bool false)], args := [d1, d2, d3] }
  | _ => none }
def PprUnpacksWrongFalsely : Prop := pprUnpacksRow.holds Try.pinned (OpenSpec.ofChange pprUnpacksWrong)

/-- 'bevylaw06.PprNotes': WHATEVER THE INPUT: true; the input reads as it did. -/
def pprNotesSpec : ChangeSpec := { name := "pprNotes", fn := fun _ => fun
  | [d1, d2, d3, d4] => { results := [.lit (.bool true)], args := [d1, d2, d3, d4] }
  | _ => none }
def pprNotesRow : OpenClaim := { program := "ytnfegmcdljejnaa", sum := "cab60b095e88a3926c32c77cfaa5112bc74b2e4edab5947d4559d9e6162977af", func := "bevy/bevylaw06.PprNotes", spec := "pprNotes", unfollowed := true, recurses := true, plainKeys := false, apart := false }
def PprNotesSaid : Prop := pprNotesRow.holds Try.pinned (OpenSpec.ofChange pprNotesSpec)

/-- ITS FALSE NEIGHBOUR: 'it returns false'. Refute it at one input. -/
def pprNotesWrong : ChangeSpec := { name := "pprNotes", fn := fun _ => fun
  | [d1, d2, d3, d4] => { results := [.lit (.bool false)], args := [d1, d2, d3, d4] }
  | _ => none }
def PprNotesWrongFalsely : Prop := pprNotesRow.holds Try.pinned (OpenSpec.ofChange pprNotesWrong)

/-- 'bevylaw05.PrimLearns': WHATEVER THE INPUT: true; the input reads as it did. -/
def primLearnsSpec : ChangeSpec := { name := "primLearns", fn := fun _ => fun
  | [d1, d2] => { results := [.lit (.bool true)], args := [d1, d2] }
  | _ => none }
def primLearnsRow : OpenClaim := { program := "ytnfegmcdljejnaa", sum := "cab60b095e88a3926c32c77cfaa5112bc74b2e4edab5947d4559d9e6162977af", func := "bevy/bevylaw05.PrimLearns", spec := "primLearns", unfollowed := true, recurses := true, plainKeys := false, apart := false }
def PrimLearnsSaid : Prop := primLearnsRow.holds Try.pinned (OpenSpec.ofChange primLearnsSpec)

/-- ITS FALSE NEIGHBOUR: 'it returns false'. Refute it at one input. -/
def primLearnsWrong : ChangeSpec := { name := "primLearns", fn := fun _ => fun
  | [d1, d2] => { results := [.lit (.bool false)], args := [d1, d2] }
  | _ => none }
def PrimLearnsWrongFalsely : Prop := primLearnsRow.holds Try.pinned (OpenSpec.ofChange primLearnsWrong)

/-- 'bevylaw11.KeysNotes': WHATEVER THE INPUT: true; the input reads as it did. -/
def keysNotesSpec : ChangeSpec := { name := "keysNotes", fn := fun _ => fun
  | [d1, d2, d3, d4] => { results := [.lit (.bool true)], args := [d1, d2, d3, d4] }
  | _ => none }
def keysNotesRow : OpenClaim := { program := "ytnfegmcdljejnaa", sum := "cab60b095e88a3926c32c77cfaa5112bc74b2e4edab5947d4559d9e6162977af", func := "bevy/bevylaw11.KeysNotes", spec := "keysNotes", unfollowed := true, recurses := true, plainKeys := false, apart := false }
def KeysNotesSaid : Prop := keysNotesRow.holds Try.pinned (OpenSpec.ofChange keysNotesSpec)

/-- ITS FALSE NEIGHBOUR: 'it returns false'. Refute it at one input. -/
def keysNotesWrong : ChangeSpec := { name := "keysNotes", fn := fun _ => fun
  | [d1, d2, d3, d4] => { results := [.lit (.bool false)], args := [d1, d2, d3, d4] }
  | _ => none }
def KeysNotesWrongFalsely : Prop := keysNotesRow.holds Try.pinned (OpenSpec.ofChange keysNotesWrong)

/-- 'bevylaw05.PrimNotes': WHATEVER THE INPUT: true; the input reads as it did. -/
def primNotesSpec : ChangeSpec := { name := "primNotes", fn := fun _ => fun
  | [d1, d2] => { results := [.lit (.bool true)], args := [d1, d2] }
  | _ => none }
def primNotesRow : OpenClaim := { program := "ytnfegmcdljejnaa", sum := "cab60b095e88a3926c32c77cfaa5112bc74b2e4edab5947d4559d9e6162977af", func := "bevy/bevylaw05.PrimNotes", spec := "primNotes", unfollowed := true, recurses := true, plainKeys := false, apart := false }
def PrimNotesSaid : Prop := primNotesRow.holds Try.pinned (OpenSpec.ofChange primNotesSpec)

/-- ITS FALSE NEIGHBOUR: 'it returns false'. Refute it at one input. -/
def primNotesWrong : ChangeSpec := { name := "primNotes", fn := fun _ => fun
  | [d1, d2] => { results := [.lit (.bool false)], args := [d1, d2] }
  | _ => none }
def PrimNotesWrongFalsely : Prop := primNotesRow.holds Try.pinned (OpenSpec.ofChange primNotesWrong)

/- THE SECOND FORM. 'bulk': how many values and letters a reading holds, each counted each time it is reached (what is shared counts as often as it is met; a slice's spare places count too). A statement '..UptoSaid' is the law's where the arguments, and the package variables that the reading takes, are together of bulk at most 1048576: NARROWER than '..Said'. Prove '..Said' where nothing that the law and all that it calls make is longer than what came in: it says more and counts as full. Else prove '..UptoSaid'. A law counts once. -/
mutual
def uptoBulk {H : Type} : DataW H → Nat
  | .lit (.string bytes) => bytes.length + 1
  | .lit _ => 1
  | .nil => 1
  | .ptr d => uptoBulk d + 1
  | .slice elems spare => uptoBulkAll elems + uptoBulkAll spare + 1
  | .agg parts => uptoBulkAll parts + 1
  | .iface _ d => uptoBulk d + 1
  | .map entries => uptoBulkEntries entries + 1
  | .held _ => 1
def uptoBulkAll {H : Type} : List (DataW H) → Nat
  | [] => 0
  | d :: r => uptoBulk d + uptoBulkAll r
def uptoBulkEntries {H : Type} : List (Lit × DataW H) → Nat
  | [] => 0
  | x :: r => uptoBulkEntry x + uptoBulkEntries r
def uptoBulkEntry {H : Type} : Lit × DataW H → Nat
  | (.string bytes, d) => bytes.length + uptoBulk d + 1
  | (_, d) => uptoBulk d + 1
 end
def uptoSmall : (H : Type) → List (DataW H) → Bool := fun _ ds => decide (uptoBulkAll ds ≤ 1048576)
def OpenSpec.upto (s : _root_.Go.ChangeSpec) : _root_.Go.OpenSpec := { _root_.Go.OpenSpec.ofChange s with cond := some uptoSmall }

/-- 'bevylaw11.KeysTags', WHERE WHAT IT READS IS OF BULK AT MOST 1048576: true; the input reads as it did. -/
def keysTagsUptoRow : OpenClaim := { program := "ytnfegmcdljejnaa", sum := "cab60b095e88a3926c32c77cfaa5112bc74b2e4edab5947d4559d9e6162977af", func := "bevy/bevylaw11.KeysTags", spec := "keysTags", plainKeys := false, apart := false, narrowed := true }
def KeysTagsUptoSaid : Prop := keysTagsUptoRow.holds Try.pinned (OpenSpec.upto keysTagsSpec)

/-- 'bevylaw11.KeysSpots', WHERE WHAT IT READS IS OF BULK AT MOST 1048576: true; the input reads as it did. -/
def keysSpotsUptoRow : OpenClaim := { program := "ytnfegmcdljejnaa", sum := "cab60b095e88a3926c32c77cfaa5112bc74b2e4edab5947d4559d9e6162977af", func := "bevy/bevylaw11.KeysSpots", spec := "keysSpots", plainKeys := false, apart := false, narrowed := true }
def KeysSpotsUptoSaid : Prop := keysSpotsUptoRow.holds Try.pinned (OpenSpec.upto keysSpotsSpec)

/-- 'bevylaw11.KeysMakes', WHERE WHAT IT READS IS OF BULK AT MOST 1048576: true; the input reads as it did. -/
def keysMakesUptoRow : OpenClaim := { program := "ytnfegmcdljejnaa", sum := "cab60b095e88a3926c32c77cfaa5112bc74b2e4edab5947d4559d9e6162977af", func := "bevy/bevylaw11.KeysMakes", spec := "keysMakes", plainKeys := false, apart := false, narrowed := true }
def KeysMakesUptoSaid : Prop := keysMakesUptoRow.holds Try.pinned (OpenSpec.upto keysMakesSpec)

/-- 'bevylaw11.KeysRoots', WHERE WHAT IT READS IS OF BULK AT MOST 1048576: true; the input reads as it did. -/
def keysRootsUptoRow : OpenClaim := { program := "ytnfegmcdljejnaa", sum := "cab60b095e88a3926c32c77cfaa5112bc74b2e4edab5947d4559d9e6162977af", func := "bevy/bevylaw11.KeysRoots", spec := "keysRoots", plainKeys := false, apart := false, narrowed := true }
def KeysRootsUptoSaid : Prop := keysRootsUptoRow.holds Try.pinned (OpenSpec.upto keysRootsSpec)

/-- 'bevylaw06.PprStays', WHERE WHAT IT READS IS OF BULK AT MOST 1048576: true; the input reads as it did. -/
def pprStaysUptoRow : OpenClaim := { program := "ytnfegmcdljejnaa", sum := "cab60b095e88a3926c32c77cfaa5112bc74b2e4edab5947d4559d9e6162977af", func := "bevy/bevylaw06.PprStays", spec := "pprStays", plainKeys := false, apart := false, narrowed := true }
def PprStaysUptoSaid : Prop := pprStaysUptoRow.holds Try.pinned (OpenSpec.upto pprStaysSpec)

/-- 'bevylaw06.PprKeys', WHERE WHAT IT READS IS OF BULK AT MOST 1048576: true; the input reads as it did. -/
def pprKeysUptoRow : OpenClaim := { program := "ytnfegmcdljejnaa", sum := "cab60b095e88a3926c32c77cfaa5112bc74b2e4edab5947d4559d9e6162977af", func := "bevy/bevylaw06.PprKeys", spec := "pprKeys", plainKeys := false, apart := false, narrowed := true }
def PprKeysUptoSaid : Prop := pprKeysUptoRow.holds Try.pinned (OpenSpec.upto pprKeysSpec)

/-- 'bevylaw11.KeysSaid', WHERE WHAT IT READS IS OF BULK AT MOST 1048576: true; the input reads as it did. -/
def keysSaidUptoRow : OpenClaim := { program := "ytnfegmcdljejnaa", sum := "cab60b095e88a3926c32c77cfaa5112bc74b2e4edab5947d4559d9e6162977af", func := "bevy/bevylaw11.KeysSaid", spec := "keysSaid", plainKeys := false, apart := false, narrowed := true }
def KeysSaidUptoSaid : Prop := keysSaidUptoRow.holds Try.pinned (OpenSpec.upto keysSaidSpec)

/-- 'bevylaw05.PrimSeals', WHERE WHAT IT READS IS OF BULK AT MOST 1048576: true; the input reads as it did. -/
def primSealsUptoRow : OpenClaim := { program := "ytnfegmcdljejnaa", sum := "cab60b095e88a3926c32c77cfaa5112bc74b2e4edab5947d4559d9e6162977af", func := "bevy/bevylaw05.PrimSeals", spec := "primSeals", plainKeys := false, apart := false, narrowed := true }
def PrimSealsUptoSaid : Prop := primSealsUptoRow.holds Try.pinned (OpenSpec.upto primSealsSpec)

/-- 'bevylaw05.PrimOpens', WHERE WHAT IT READS IS OF BULK AT MOST 1048576: true; the input reads as it did. -/
def primOpensUptoRow : OpenClaim := { program := "ytnfegmcdljejnaa", sum := "cab60b095e88a3926c32c77cfaa5112bc74b2e4edab5947d4559d9e6162977af", func := "bevy/bevylaw05.PrimOpens", spec := "primOpens", plainKeys := false, apart := false, narrowed := true }
def PrimOpensUptoSaid : Prop := primOpensUptoRow.holds Try.pinned (OpenSpec.upto primOpensSpec)

/-- 'bevylaw05.PrimWraps', WHERE WHAT IT READS IS OF BULK AT MOST 1048576: true; the input reads as it did. -/
def primWrapsUptoRow : OpenClaim := { program := "ytnfegmcdljejnaa", sum := "cab60b095e88a3926c32c77cfaa5112bc74b2e4edab5947d4559d9e6162977af", func := "bevy/bevylaw05.PrimWraps", spec := "primWraps", plainKeys := false, apart := false, narrowed := true }
def PrimWrapsUptoSaid : Prop := primWrapsUptoRow.holds Try.pinned (OpenSpec.upto primWrapsSpec)

/-- 'bevylaw05.PrimPubs', WHERE WHAT IT READS IS OF BULK AT MOST 1048576: true; the input reads as it did. -/
def primPubsUptoRow : OpenClaim := { program := "ytnfegmcdljejnaa", sum := "cab60b095e88a3926c32c77cfaa5112bc74b2e4edab5947d4559d9e6162977af", func := "bevy/bevylaw05.PrimPubs", spec := "primPubs", plainKeys := false, apart := false, narrowed := true }
def PrimPubsUptoSaid : Prop := primPubsUptoRow.holds Try.pinned (OpenSpec.upto primPubsSpec)

/-- 'bevylaw05.PrimChecks', WHERE WHAT IT READS IS OF BULK AT MOST 1048576: true; the input reads as it did. -/
def primChecksUptoRow : OpenClaim := { program := "ytnfegmcdljejnaa", sum := "cab60b095e88a3926c32c77cfaa5112bc74b2e4edab5947d4559d9e6162977af", func := "bevy/bevylaw05.PrimChecks", spec := "primChecks", plainKeys := false, apart := false, narrowed := true }
def PrimChecksUptoSaid : Prop := primChecksUptoRow.holds Try.pinned (OpenSpec.upto primChecksSpec)

/-- 'bevylaw05.PrimKeys', WHERE WHAT IT READS IS OF BULK AT MOST 1048576: true; the input reads as it did. -/
def primKeysUptoRow : OpenClaim := { program := "ytnfegmcdljejnaa", sum := "cab60b095e88a3926c32c77cfaa5112bc74b2e4edab5947d4559d9e6162977af", func := "bevy/bevylaw05.PrimKeys", spec := "primKeys", plainKeys := false, apart := false, narrowed := true }
def PrimKeysUptoSaid : Prop := primKeysUptoRow.holds Try.pinned (OpenSpec.upto primKeysSpec)

/-- 'bevylaw06.PprErased', WHERE WHAT IT READS IS OF BULK AT MOST 1048576: true; the input reads as it did. -/
def pprErasedUptoRow : OpenClaim := { program := "ytnfegmcdljejnaa", sum := "cab60b095e88a3926c32c77cfaa5112bc74b2e4edab5947d4559d9e6162977af", func := "bevy/bevylaw06.PprErased", spec := "pprErased", unfollowed := true, recurses := true, plainKeys := false, apart := false, narrowed := true }
def PprErasedUptoSaid : Prop := pprErasedUptoRow.holds Try.pinned (OpenSpec.upto pprErasedSpec)

/-- 'bevylaw06.PprTakes', WHERE WHAT IT READS IS OF BULK AT MOST 1048576: true; the input reads as it did. -/
def pprTakesUptoRow : OpenClaim := { program := "ytnfegmcdljejnaa", sum := "cab60b095e88a3926c32c77cfaa5112bc74b2e4edab5947d4559d9e6162977af", func := "bevy/bevylaw06.PprTakes", spec := "pprTakes", recurses := true, plainKeys := false, apart := false, narrowed := true }
def PprTakesUptoSaid : Prop := pprTakesUptoRow.holds Try.pinned (OpenSpec.upto pprTakesSpec)

/-- 'bevylaw06.PprPlays', WHERE WHAT IT READS IS OF BULK AT MOST 1048576: true; the input reads as it did. -/
def pprPlaysUptoRow : OpenClaim := { program := "ytnfegmcdljejnaa", sum := "cab60b095e88a3926c32c77cfaa5112bc74b2e4edab5947d4559d9e6162977af", func := "bevy/bevylaw06.PprPlays", spec := "pprPlays", recurses := true, plainKeys := false, apart := false, narrowed := true }
def PprPlaysUptoSaid : Prop := pprPlaysUptoRow.holds Try.pinned (OpenSpec.upto pprPlaysSpec)

/-- 'bevylaw06.PprNil', WHERE WHAT IT READS IS OF BULK AT MOST 1048576: true; the input reads as it did. -/
def pprNilUptoRow : OpenClaim := { program := "ytnfegmcdljejnaa", sum := "cab60b095e88a3926c32c77cfaa5112bc74b2e4edab5947d4559d9e6162977af", func := "bevy/bevylaw06.PprNil", spec := "pprNil", plainKeys := false, apart := false, narrowed := true }
def PprNilUptoSaid : Prop := pprNilUptoRow.holds Try.pinned (OpenSpec.upto pprNilSpec)

/-- 'bevylaw06.PprUnpacks', WHERE WHAT IT READS IS OF BULK AT MOST 1048576: true; the input reads as it did. -/
def pprUnpacksUptoRow : OpenClaim := { program := "ytnfegmcdljejnaa", sum := "cab60b095e88a3926c32c77cfaa5112bc74b2e4edab5947d4559d9e6162977af", func := "bevy/bevylaw06.PprUnpacks", spec := "pprUnpacks", plainKeys := false, apart := false, narrowed := true }
def PprUnpacksUptoSaid : Prop := pprUnpacksUptoRow.holds Try.pinned (OpenSpec.upto pprUnpacksSpec)

/-- 'bevylaw06.PprNotes', WHERE WHAT IT READS IS OF BULK AT MOST 1048576: true; the input reads as it did. -/
def pprNotesUptoRow : OpenClaim := { program := "ytnfegmcdljejnaa", sum := "cab60b095e88a3926c32c77cfaa5112bc74b2e4edab5947d4559d9e6162977af", func := "bevy/bevylaw06.PprNotes", spec := "pprNotes", unfollowed := true, recurses := true, plainKeys := false, apart := false, narrowed := true }
def PprNotesUptoSaid : Prop := pprNotesUptoRow.holds Try.pinned (OpenSpec.upto pprNotesSpec)

/-- 'bevylaw05.PrimLearns', WHERE WHAT IT READS IS OF BULK AT MOST 1048576: true; the input reads as it did. -/
def primLearnsUptoRow : OpenClaim := { program := "ytnfegmcdljejnaa", sum := "cab60b095e88a3926c32c77cfaa5112bc74b2e4edab5947d4559d9e6162977af", func := "bevy/bevylaw05.PrimLearns", spec := "primLearns", unfollowed := true, recurses := true, plainKeys := false, apart := false, narrowed := true }
def PrimLearnsUptoSaid : Prop := primLearnsUptoRow.holds Try.pinned (OpenSpec.upto primLearnsSpec)

/-- 'bevylaw11.KeysNotes', WHERE WHAT IT READS IS OF BULK AT MOST 1048576: true; the input reads as it did. -/
def keysNotesUptoRow : OpenClaim := { program := "ytnfegmcdljejnaa", sum := "cab60b095e88a3926c32c77cfaa5112bc74b2e4edab5947d4559d9e6162977af", func := "bevy/bevylaw11.KeysNotes", spec := "keysNotes", unfollowed := true, recurses := true, plainKeys := false, apart := false, narrowed := true }
def KeysNotesUptoSaid : Prop := keysNotesUptoRow.holds Try.pinned (OpenSpec.upto keysNotesSpec)

/-- 'bevylaw05.PrimNotes', WHERE WHAT IT READS IS OF BULK AT MOST 1048576: true; the input reads as it did. -/
def primNotesUptoRow : OpenClaim := { program := "ytnfegmcdljejnaa", sum := "cab60b095e88a3926c32c77cfaa5112bc74b2e4edab5947d4559d9e6162977af", func := "bevy/bevylaw05.PrimNotes", spec := "primNotes", unfollowed := true, recurses := true, plainKeys := false, apart := false, narrowed := true }
def PrimNotesUptoSaid : Prop := primNotesUptoRow.holds Try.pinned (OpenSpec.upto primNotesSpec)

end Rows
end Go.Proofs.Ytnfegmcdljejnaa
