/-
  No cell of these rows narrows 'for every input' (looked for: loops, veiled, ifaces, maps, wideKeys, modest, calm, conditions, laid).
  DERIVED. THE GIVEN ROWS OF THIS SEAT. 12 by the template 'for every input the law returns true; each argument reads behind the call as it read before'; 0 by the template 'total and deterministic' (their statements: YtjlpdbaknhbgdaaGreatTotals.lean).
  GIVEN WITH THE SEED: the statements are not yours to turn. If you find one false, say at which input.
  Laid BY PROGRAM, IN A SANDBOX (cutbox-rows.mjs): the forced cells as the released guide's own fill.sh prints them over the translation 6ccbde20f59e6be0… (all of the seat's roots in one cut). By AI agents, Wed Nov 11 2026. No macro, syntax, notation, axiom, sorry.
-/
import Derived.Test.YtjlpdbaknhbgdaaGreatChecked
import GoSem.Claim
import GoSem.ClaimJoined
import GoSem.ClaimMapViews
import Derived.JoinedTies
import Derived.KernelRfl
namespace Go.Proofs.YtjlpdbaknhbgdaaGreat
/- THE CELL 'sum', in the pinned program and in every row, IS THE sha256 OF THE DUMP (.gsa) THAT YtjlpdbaknhbgdaaGreatProg.lean LOADS. Nothing in Lean hashes anything: it is a label: what it is worth is what the hold of that sum in a sandbox is worth. -/
noncomputable def Tryz.pinned : Pinned := { name := "ytjlpdbaknhbgdaagreat", sum := "6ccbde20f59e6be089fee5376287dee1d8d4c2668dd85796c4ba59c818fa6b84", checked := Tryz.checked }
namespace Rows
def none {H : Type} : Left H := { results := [], args := [] }

/-- 'bevylaw12.EraReads': WHATEVER THE INPUT: true; the input reads as it did. -/
def eraReadsSpec : ChangeSpec := { name := "eraReads", fn := fun _ => fun
  | [d1, d2, d3, d4, d5, d6] => { results := [.lit (.bool true)], args := [d1, d2, d3, d4, d5, d6] }
  | _ => none }
def eraReadsRow : OpenClaim := { program := "ytjlpdbaknhbgdaagreat", sum := "6ccbde20f59e6be089fee5376287dee1d8d4c2668dd85796c4ba59c818fa6b84", func := "bevy/bevylaw12.EraReads", spec := "eraReads", unfollowed := true, recurses := true, plainKeys := false, apart := false }
def EraReadsSaid : Prop := eraReadsRow.holds Tryz.pinned (OpenSpec.ofChange eraReadsSpec)

/-- ITS FALSE NEIGHBOUR: 'it returns false'. Refute it at one input. -/
def eraReadsWrong : ChangeSpec := { name := "eraReads", fn := fun _ => fun
  | [d1, d2, d3, d4, d5, d6] => { results := [.lit (.bool false)], args := [d1, d2, d3, d4, d5, d6] }
  | _ => none }
def EraReadsWrongFalsely : Prop := eraReadsRow.holds Tryz.pinned (OpenSpec.ofChange eraReadsWrong)

/-- 'bevylaw12.EraPacks': WHATEVER THE INPUT: true; the input reads as it did. -/
def eraPacksSpec : ChangeSpec := { name := "eraPacks", fn := fun _ => fun
  | [d1, d2, d3, d4, d5] => { results := [.lit (.bool true)], args := [d1, d2, d3, d4, d5] }
  | _ => none }
def eraPacksRow : OpenClaim := { program := "ytjlpdbaknhbgdaagreat", sum := "6ccbde20f59e6be089fee5376287dee1d8d4c2668dd85796c4ba59c818fa6b84", func := "bevy/bevylaw12.EraPacks", spec := "eraPacks", unfollowed := true, recurses := true, plainKeys := false, apart := false }
def EraPacksSaid : Prop := eraPacksRow.holds Tryz.pinned (OpenSpec.ofChange eraPacksSpec)

/-- ITS FALSE NEIGHBOUR: 'it returns false'. Refute it at one input. -/
def eraPacksWrong : ChangeSpec := { name := "eraPacks", fn := fun _ => fun
  | [d1, d2, d3, d4, d5] => { results := [.lit (.bool false)], args := [d1, d2, d3, d4, d5] }
  | _ => none }
def EraPacksWrongFalsely : Prop := eraPacksRow.holds Tryz.pinned (OpenSpec.ofChange eraPacksWrong)

/-- 'bevylaw12.EraFounds': WHATEVER THE INPUT: true; the input reads as it did. -/
def eraFoundsSpec : ChangeSpec := { name := "eraFounds", fn := fun _ => fun
  | [d1, d2, d3, d4] => { results := [.lit (.bool true)], args := [d1, d2, d3, d4] }
  | _ => none }
def eraFoundsRow : OpenClaim := { program := "ytjlpdbaknhbgdaagreat", sum := "6ccbde20f59e6be089fee5376287dee1d8d4c2668dd85796c4ba59c818fa6b84", func := "bevy/bevylaw12.EraFounds", spec := "eraFounds", unfollowed := true, recurses := true, plainKeys := false, apart := false }
def EraFoundsSaid : Prop := eraFoundsRow.holds Tryz.pinned (OpenSpec.ofChange eraFoundsSpec)

/-- ITS FALSE NEIGHBOUR: 'it returns false'. Refute it at one input. -/
def eraFoundsWrong : ChangeSpec := { name := "eraFounds", fn := fun _ => fun
  | [d1, d2, d3, d4] => { results := [.lit (.bool false)], args := [d1, d2, d3, d4] }
  | _ => none }
def EraFoundsWrongFalsely : Prop := eraFoundsRow.holds Tryz.pinned (OpenSpec.ofChange eraFoundsWrong)

/-- 'bevylaw12.EraMakes': WHATEVER THE INPUT: true; the input reads as it did. -/
def eraMakesSpec : ChangeSpec := { name := "eraMakes", fn := fun _ => fun
  | [d1, d2, d3, d4] => { results := [.lit (.bool true)], args := [d1, d2, d3, d4] }
  | _ => none }
def eraMakesRow : OpenClaim := { program := "ytjlpdbaknhbgdaagreat", sum := "6ccbde20f59e6be089fee5376287dee1d8d4c2668dd85796c4ba59c818fa6b84", func := "bevy/bevylaw12.EraMakes", spec := "eraMakes", unfollowed := true, recurses := true, plainKeys := false, apart := false }
def EraMakesSaid : Prop := eraMakesRow.holds Tryz.pinned (OpenSpec.ofChange eraMakesSpec)

/-- ITS FALSE NEIGHBOUR: 'it returns false'. Refute it at one input. -/
def eraMakesWrong : ChangeSpec := { name := "eraMakes", fn := fun _ => fun
  | [d1, d2, d3, d4] => { results := [.lit (.bool false)], args := [d1, d2, d3, d4] }
  | _ => none }
def EraMakesWrongFalsely : Prop := eraMakesRow.holds Tryz.pinned (OpenSpec.ofChange eraMakesWrong)

/-- 'bevylaw14.ChatOnce': WHATEVER THE INPUT: true; the input reads as it did. -/
def chatOnceSpec : ChangeSpec := { name := "chatOnce", fn := fun _ => fun
  | [d1, d2, d3] => { results := [.lit (.bool true)], args := [d1, d2, d3] }
  | _ => none }
def chatOnceRow : OpenClaim := { program := "ytjlpdbaknhbgdaagreat", sum := "6ccbde20f59e6be089fee5376287dee1d8d4c2668dd85796c4ba59c818fa6b84", func := "bevy/bevylaw14.ChatOnce", spec := "chatOnce", inPlace := ["internal/abi.NoEscape", "internal/bytealg.MakeNoZero"], unfollowed := true, recurses := true, plainKeys := false, apart := false }
def ChatOnceSaid : Prop := chatOnceRow.holds Tryz.pinned (OpenSpec.ofChange chatOnceSpec)

/-- ITS FALSE NEIGHBOUR: 'it returns false'. Refute it at one input. -/
def chatOnceWrong : ChangeSpec := { name := "chatOnce", fn := fun _ => fun
  | [d1, d2, d3] => { results := [.lit (.bool false)], args := [d1, d2, d3] }
  | _ => none }
def ChatOnceWrongFalsely : Prop := chatOnceRow.holds Tryz.pinned (OpenSpec.ofChange chatOnceWrong)

/-- 'bevylaw14.ChatNames': WHATEVER THE INPUT: true; the input reads as it did. -/
def chatNamesSpec : ChangeSpec := { name := "chatNames", fn := fun _ => fun
  | [d1, d2, d3] => { results := [.lit (.bool true)], args := [d1, d2, d3] }
  | _ => none }
def chatNamesRow : OpenClaim := { program := "ytjlpdbaknhbgdaagreat", sum := "6ccbde20f59e6be089fee5376287dee1d8d4c2668dd85796c4ba59c818fa6b84", func := "bevy/bevylaw14.ChatNames", spec := "chatNames", inPlace := ["internal/abi.NoEscape", "internal/bytealg.MakeNoZero"], unfollowed := true, recurses := true, plainKeys := false, apart := false }
def ChatNamesSaid : Prop := chatNamesRow.holds Tryz.pinned (OpenSpec.ofChange chatNamesSpec)

/-- ITS FALSE NEIGHBOUR: 'it returns false'. Refute it at one input. -/
def chatNamesWrong : ChangeSpec := { name := "chatNames", fn := fun _ => fun
  | [d1, d2, d3] => { results := [.lit (.bool false)], args := [d1, d2, d3] }
  | _ => none }
def ChatNamesWrongFalsely : Prop := chatNamesRow.holds Tryz.pinned (OpenSpec.ofChange chatNamesWrong)

/-- 'bevylaw14.ChatRights': WHATEVER THE INPUT: true; the input reads as it did. -/
def chatRightsSpec : ChangeSpec := { name := "chatRights", fn := fun _ => fun
  | [d] => { results := [.lit (.bool true)], args := [d] }
  | _ => none }
def chatRightsRow : OpenClaim := { program := "ytjlpdbaknhbgdaagreat", sum := "6ccbde20f59e6be089fee5376287dee1d8d4c2668dd85796c4ba59c818fa6b84", func := "bevy/bevylaw14.ChatRights", spec := "chatRights", inPlace := ["internal/abi.NoEscape", "internal/bytealg.MakeNoZero"], unfollowed := true, recurses := true, plainKeys := false, apart := false }
def ChatRightsSaid : Prop := chatRightsRow.holds Tryz.pinned (OpenSpec.ofChange chatRightsSpec)

/-- ITS FALSE NEIGHBOUR: 'it returns false'. Refute it at one input. -/
def chatRightsWrong : ChangeSpec := { name := "chatRights", fn := fun _ => fun
  | [d] => { results := [.lit (.bool false)], args := [d] }
  | _ => none }
def ChatRightsWrongFalsely : Prop := chatRightsRow.holds Tryz.pinned (OpenSpec.ofChange chatRightsWrong)

/-- 'bevylaw14.ChatPlays': WHATEVER THE INPUT: true; the input reads as it did. -/
def chatPlaysSpec : ChangeSpec := { name := "chatPlays", fn := fun _ => fun
  | [d1, d2] => { results := [.lit (.bool true)], args := [d1, d2] }
  | _ => none }
def chatPlaysRow : OpenClaim := { program := "ytjlpdbaknhbgdaagreat", sum := "6ccbde20f59e6be089fee5376287dee1d8d4c2668dd85796c4ba59c818fa6b84", func := "bevy/bevylaw14.ChatPlays", spec := "chatPlays", inPlace := ["internal/abi.NoEscape", "internal/bytealg.MakeNoZero"], unfollowed := true, recurses := true, plainKeys := false, apart := false }
def ChatPlaysSaid : Prop := chatPlaysRow.holds Tryz.pinned (OpenSpec.ofChange chatPlaysSpec)

/-- ITS FALSE NEIGHBOUR: 'it returns false'. Refute it at one input. -/
def chatPlaysWrong : ChangeSpec := { name := "chatPlays", fn := fun _ => fun
  | [d1, d2] => { results := [.lit (.bool false)], args := [d1, d2] }
  | _ => none }
def ChatPlaysWrongFalsely : Prop := chatPlaysRow.holds Tryz.pinned (OpenSpec.ofChange chatPlaysWrong)

/-- 'bevylaw14.ChatNotes': WHATEVER THE INPUT: true; the input reads as it did. -/
def chatNotesSpec : ChangeSpec := { name := "chatNotes", fn := fun _ => fun
  | [d1, d2, d3] => { results := [.lit (.bool true)], args := [d1, d2, d3] }
  | _ => none }
def chatNotesRow : OpenClaim := { program := "ytjlpdbaknhbgdaagreat", sum := "6ccbde20f59e6be089fee5376287dee1d8d4c2668dd85796c4ba59c818fa6b84", func := "bevy/bevylaw14.ChatNotes", spec := "chatNotes", inPlace := ["internal/abi.NoEscape", "internal/bytealg.MakeNoZero"], unfollowed := true, recurses := true, plainKeys := false, apart := false }
def ChatNotesSaid : Prop := chatNotesRow.holds Tryz.pinned (OpenSpec.ofChange chatNotesSpec)

/-- ITS FALSE NEIGHBOUR: 'it returns false'. Refute it at one input. -/
def chatNotesWrong : ChangeSpec := { name := "chatNotes", fn := fun _ => fun
  | [d1, d2, d3] => { results := [.lit (.bool false)], args := [d1, d2, d3] }
  | _ => none }
def ChatNotesWrongFalsely : Prop := chatNotesRow.holds Tryz.pinned (OpenSpec.ofChange chatNotesWrong)

/-- 'bevylaw12.EraShows': WHATEVER THE INPUT: true; the input reads as it did. -/
def eraShowsSpec : ChangeSpec := { name := "eraShows", fn := fun _ => fun
  | [d1, d2, d3, d4, d5, d6] => { results := [.lit (.bool true)], args := [d1, d2, d3, d4, d5, d6] }
  | _ => none }
def eraShowsRow : OpenClaim := { program := "ytjlpdbaknhbgdaagreat", sum := "6ccbde20f59e6be089fee5376287dee1d8d4c2668dd85796c4ba59c818fa6b84", func := "bevy/bevylaw12.EraShows", spec := "eraShows", unfollowed := true, recurses := true, plainKeys := false, apart := false }
def EraShowsSaid : Prop := eraShowsRow.holds Tryz.pinned (OpenSpec.ofChange eraShowsSpec)

/-- ITS FALSE NEIGHBOUR: 'it returns false'. Refute it at one input. -/
def eraShowsWrong : ChangeSpec := { name := "eraShows", fn := fun _ => fun
  | [d1, d2, d3, d4, d5, d6] => { results := [.lit (.bool false)], args := [d1, d2, d3, d4, d5, d6] }
  | _ => none }
def EraShowsWrongFalsely : Prop := eraShowsRow.holds Tryz.pinned (OpenSpec.ofChange eraShowsWrong)

/-- 'bevylaw14.ChatForms': WHATEVER THE INPUT: true; the input reads as it did. -/
def chatFormsSpec : ChangeSpec := { name := "chatForms", fn := fun _ => fun
  | [d1, d2] => { results := [.lit (.bool true)], args := [d1, d2] }
  | _ => none }
def chatFormsRow : OpenClaim := { program := "ytjlpdbaknhbgdaagreat", sum := "6ccbde20f59e6be089fee5376287dee1d8d4c2668dd85796c4ba59c818fa6b84", func := "bevy/bevylaw14.ChatForms", spec := "chatForms", inPlace := ["internal/abi.NoEscape", "internal/bytealg.MakeNoZero"], unfollowed := true, recurses := true, plainKeys := false, apart := false }
def ChatFormsSaid : Prop := chatFormsRow.holds Tryz.pinned (OpenSpec.ofChange chatFormsSpec)

/-- ITS FALSE NEIGHBOUR: 'it returns false'. Refute it at one input. -/
def chatFormsWrong : ChangeSpec := { name := "chatForms", fn := fun _ => fun
  | [d1, d2] => { results := [.lit (.bool false)], args := [d1, d2] }
  | _ => none }
def ChatFormsWrongFalsely : Prop := chatFormsRow.holds Tryz.pinned (OpenSpec.ofChange chatFormsWrong)

/-- 'bevylaw14.ChatEnds': WHATEVER THE INPUT: true; the input reads as it did. -/
def chatEndsSpec : ChangeSpec := { name := "chatEnds", fn := fun _ => fun
  | [d1, d2] => { results := [.lit (.bool true)], args := [d1, d2] }
  | _ => none }
def chatEndsRow : OpenClaim := { program := "ytjlpdbaknhbgdaagreat", sum := "6ccbde20f59e6be089fee5376287dee1d8d4c2668dd85796c4ba59c818fa6b84", func := "bevy/bevylaw14.ChatEnds", spec := "chatEnds", inPlace := ["internal/abi.NoEscape", "internal/bytealg.MakeNoZero"], unfollowed := true, recurses := true, plainKeys := false, apart := false }
def ChatEndsSaid : Prop := chatEndsRow.holds Tryz.pinned (OpenSpec.ofChange chatEndsSpec)

/-- ITS FALSE NEIGHBOUR: 'it returns false'. Refute it at one input. -/
def chatEndsWrong : ChangeSpec := { name := "chatEnds", fn := fun _ => fun
  | [d1, d2] => { results := [.lit (.bool false)], args := [d1, d2] }
  | _ => none }
def ChatEndsWrongFalsely : Prop := chatEndsRow.holds Tryz.pinned (OpenSpec.ofChange chatEndsWrong)

/- THE SECOND FORM. 'bulk': how many values and letters a reading holds, each counted each time it is reached (what is shared counts as often as it is met; a slice's spare places count too). A statement '..UptoSaid' is the law's where the arguments, and the package variables that the reading takes, are together of bulk at most 1048576: NARROWER than '..Said'. Prove '..Said' where nothing that the law and all that it calls make is longer than what came in: it says more and counts as full. Else prove '..UptoSaid'. A law counts once. -/
mutual
def uptoBulk {H : Type} : DataW H → Nat
  | .lit (.string bytes) => bytes.length + 1
  | .lit _ => 1
  | .nil => 1
  | .ptr d => uptoBulk d + 1
  | .slice elems spare => uptoBulkAll elems + uptoBulkAll spare + 1
  | .agg parts => uptoBulkAll parts + 1
  | .iface _ d => uptoBulk d + 1
  | .map entries => uptoBulkEntries entries + 1
  | .held _ => 1
def uptoBulkAll {H : Type} : List (DataW H) → Nat
  | [] => 0
  | d :: r => uptoBulk d + uptoBulkAll r
def uptoBulkEntries {H : Type} : List (Lit × DataW H) → Nat
  | [] => 0
  | x :: r => uptoBulkEntry x + uptoBulkEntries r
def uptoBulkEntry {H : Type} : Lit × DataW H → Nat
  | (.string bytes, d) => bytes.length + uptoBulk d + 1
  | (_, d) => uptoBulk d + 1
 end
def uptoSmall : (H : Type) → List (DataW H) → Bool := fun _ ds => decide (uptoBulkAll ds ≤ 1048576)
def OpenSpec.upto (s : _root_.Go.ChangeSpec) : _root_.Go.OpenSpec := { _root_.Go.OpenSpec.ofChange s with cond := some uptoSmall }

/-- 'bevylaw12.EraReads', WHERE WHAT IT READS IS OF BULK AT MOST 1048576: true; the input reads as it did. -/
def eraReadsUptoRow : OpenClaim := { program := "ytjlpdbaknhbgdaagreat", sum := "6ccbde20f59e6be089fee5376287dee1d8d4c2668dd85796c4ba59c818fa6b84", func := "bevy/bevylaw12.EraReads", spec := "eraReads", unfollowed := true, recurses := true, plainKeys := false, apart := false, narrowed := true }
def EraReadsUptoSaid : Prop := eraReadsUptoRow.holds Tryz.pinned (OpenSpec.upto eraReadsSpec)

/-- 'bevylaw12.EraPacks', WHERE WHAT IT READS IS OF BULK AT MOST 1048576: true; the input reads as it did. -/
def eraPacksUptoRow : OpenClaim := { program := "ytjlpdbaknhbgdaagreat", sum := "6ccbde20f59e6be089fee5376287dee1d8d4c2668dd85796c4ba59c818fa6b84", func := "bevy/bevylaw12.EraPacks", spec := "eraPacks", unfollowed := true, recurses := true, plainKeys := false, apart := false, narrowed := true }
def EraPacksUptoSaid : Prop := eraPacksUptoRow.holds Tryz.pinned (OpenSpec.upto eraPacksSpec)

/-- 'bevylaw12.EraFounds', WHERE WHAT IT READS IS OF BULK AT MOST 1048576: true; the input reads as it did. -/
def eraFoundsUptoRow : OpenClaim := { program := "ytjlpdbaknhbgdaagreat", sum := "6ccbde20f59e6be089fee5376287dee1d8d4c2668dd85796c4ba59c818fa6b84", func := "bevy/bevylaw12.EraFounds", spec := "eraFounds", unfollowed := true, recurses := true, plainKeys := false, apart := false, narrowed := true }
def EraFoundsUptoSaid : Prop := eraFoundsUptoRow.holds Tryz.pinned (OpenSpec.upto eraFoundsSpec)

/-- 'bevylaw12.EraMakes', WHERE WHAT IT READS IS OF BULK AT MOST 1048576: true; the input reads as it did. -/
def eraMakesUptoRow : OpenClaim := { program := "ytjlpdbaknhbgdaagreat", sum := "6ccbde20f59e6be089fee5376287dee1d8d4c2668dd85796c4ba59c818fa6b84", func := "bevy/bevylaw12.EraMakes", spec := "eraMakes", unfollowed := true, recurses := true, plainKeys := false, apart := false, narrowed := true }
def EraMakesUptoSaid : Prop := eraMakesUptoRow.holds Tryz.pinned (OpenSpec.upto eraMakesSpec)

/-- 'bevylaw14.ChatOnce', WHERE WHAT IT READS IS OF BULK AT MOST 1048576: true; the input reads as it did. -/
def chatOnceUptoRow : OpenClaim := { program := "ytjlpdbaknhbgdaagreat", sum := "6ccbde20f59e6be089fee5376287dee1d8d4c2668dd85796c4ba59c818fa6b84", func := "bevy/bevylaw14.ChatOnce", spec := "chatOnce", inPlace := ["internal/abi.NoEscape", "internal/bytealg.MakeNoZero"], unfollowed := true, recurses := true, plainKeys := false, apart := false, narrowed := true }
def ChatOnceUptoSaid : Prop := chatOnceUptoRow.holds Tryz.pinned (OpenSpec.upto chatOnceSpec)

/-- 'bevylaw14.ChatNames', WHERE WHAT IT READS IS OF BULK AT MOST 1048576: true; the input reads as it did. -/
def chatNamesUptoRow : OpenClaim := { program := "ytjlpdbaknhbgdaagreat", sum := "6ccbde20f59e6be089fee5376287dee1d8d4c2668dd85796c4ba59c818fa6b84", func := "bevy/bevylaw14.ChatNames", spec := "chatNames", inPlace := ["internal/abi.NoEscape", "internal/bytealg.MakeNoZero"], unfollowed := true, recurses := true, plainKeys := false, apart := false, narrowed := true }
def ChatNamesUptoSaid : Prop := chatNamesUptoRow.holds Tryz.pinned (OpenSpec.upto chatNamesSpec)

/-- 'bevylaw14.ChatRights', WHERE WHAT IT READS IS OF BULK AT MOST 1048576: true; the input reads as it did. -/
def chatRightsUptoRow : OpenClaim := { program := "ytjlpdbaknhbgdaagreat", sum := "6ccbde20f59e6be089fee5376287dee1d8d4c2668dd85796c4ba59c818fa6b84", func := "bevy/bevylaw14.ChatRights", spec := "chatRights", inPlace := ["internal/abi.NoEscape", "internal/bytealg.MakeNoZero"], unfollowed := true, recurses := true, plainKeys := false, apart := false, narrowed := true }
def ChatRightsUptoSaid : Prop := chatRightsUptoRow.holds Tryz.pinned (OpenSpec.upto chatRightsSpec)

/-- 'bevylaw14.ChatPlays', WHERE WHAT IT READS IS OF BULK AT MOST 1048576: true; the input reads as it did. -/
def chatPlaysUptoRow : OpenClaim := { program := "ytjlpdbaknhbgdaagreat", sum := "6ccbde20f59e6be089fee5376287dee1d8d4c2668dd85796c4ba59c818fa6b84", func := "bevy/bevylaw14.ChatPlays", spec := "chatPlays", inPlace := ["internal/abi.NoEscape", "internal/bytealg.MakeNoZero"], unfollowed := true, recurses := true, plainKeys := false, apart := false, narrowed := true }
def ChatPlaysUptoSaid : Prop := chatPlaysUptoRow.holds Tryz.pinned (OpenSpec.upto chatPlaysSpec)

/-- 'bevylaw14.ChatNotes', WHERE WHAT IT READS IS OF BULK AT MOST 1048576: true; the input reads as it did. -/
def chatNotesUptoRow : OpenClaim := { program := "ytjlpdbaknhbgdaagreat", sum := "6ccbde20f59e6be089fee5376287dee1d8d4c2668dd85796c4ba59c818fa6b84", func := "bevy/bevylaw14.ChatNotes", spec := "chatNotes", inPlace := ["internal/abi.NoEscape", "internal/bytealg.MakeNoZero"], unfollowed := true, recurses := true, plainKeys := false, apart := false, narrowed := true }
def ChatNotesUptoSaid : Prop := chatNotesUptoRow.holds Tryz.pinned (OpenSpec.upto chatNotesSpec)

/-- 'bevylaw12.EraShows', WHERE WHAT IT READS IS OF BULK AT MOST 1048576: true; the input reads as it did. -/
def eraShowsUptoRow : OpenClaim := { program := "ytjlpdbaknhbgdaagreat", sum := "6ccbde20f59e6be089fee5376287dee1d8d4c2668dd85796c4ba59c818fa6b84", func := "bevy/bevylaw12.EraShows", spec := "eraShows", unfollowed := true, recurses := true, plainKeys := false, apart := false, narrowed := true }
def EraShowsUptoSaid : Prop := eraShowsUptoRow.holds Tryz.pinned (OpenSpec.upto eraShowsSpec)

/-- 'bevylaw14.ChatForms', WHERE WHAT IT READS IS OF BULK AT MOST 1048576: true; the input reads as it did. -/
def chatFormsUptoRow : OpenClaim := { program := "ytjlpdbaknhbgdaagreat", sum := "6ccbde20f59e6be089fee5376287dee1d8d4c2668dd85796c4ba59c818fa6b84", func := "bevy/bevylaw14.ChatForms", spec := "chatForms", inPlace := ["internal/abi.NoEscape", "internal/bytealg.MakeNoZero"], unfollowed := true, recurses := true, plainKeys := false, apart := false, narrowed := true }
def ChatFormsUptoSaid : Prop := chatFormsUptoRow.holds Tryz.pinned (OpenSpec.upto chatFormsSpec)

/-- 'bevylaw14.ChatEnds', WHERE WHAT IT READS IS OF BULK AT MOST 1048576: true; the input reads as it did. -/
def chatEndsUptoRow : OpenClaim := { program := "ytjlpdbaknhbgdaagreat", sum := "6ccbde20f59e6be089fee5376287dee1d8d4c2668dd85796c4ba59c818fa6b84", func := "bevy/bevylaw14.ChatEnds", spec := "chatEnds", inPlace := ["internal/abi.NoEscape", "internal/bytealg.MakeNoZero"], unfollowed := true, recurses := true, plainKeys := false, apart := false, narrowed := true }
def ChatEndsUptoSaid : Prop := chatEndsUptoRow.holds Tryz.pinned (OpenSpec.upto chatEndsSpec)

end Rows
end Go.Proofs.YtjlpdbaknhbgdaaGreat
