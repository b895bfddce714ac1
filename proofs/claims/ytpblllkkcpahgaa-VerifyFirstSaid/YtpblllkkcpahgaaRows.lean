/-
  No cell of these rows narrows 'for every input' (looked for: loops, veiled, ifaces, maps, wideKeys, modest, calm, conditions, laid).
  DERIVED. THE GIVEN ROWS OF THIS SEAT. 13 by the template 'for every input the law returns true; each argument reads behind the call as it read before'; 0 by the template 'total and deterministic' (their statements: YtpblllkkcpahgaaTotals.lean).
  GIVEN WITH THE SEED: the statements are not yours to turn. If you find one false, say at which input.
  Laid BY PROGRAM, IN A SANDBOX (cutbox-rows.mjs): the forced cells as the released guide's own fill.sh prints them over the translation 869c6b7a21defd0b… (all of the seat's roots in one cut). By AI agents, Wed Nov 11 2026. No macro, syntax, notation, axiom, sorry.
-/
import Derived.Test.YtpblllkkcpahgaaChecked
import GoSem.Claim
import GoSem.ClaimJoined
import GoSem.ClaimMapViews
import Derived.JoinedTies
import Derived.KernelRfl
namespace Go.Proofs.Ytpblllkkcpahgaa
/- THE CELL 'sum', in the pinned program and in every row, IS THE sha256 OF THE DUMP (.gsa) THAT YtpblllkkcpahgaaProg.lean LOADS. Nothing in Lean hashes anything: it is a label: what it is worth is what the hold of that sum in a sandbox is worth. -/
noncomputable def Try.pinned : Pinned := { name := "ytpblllkkcpahgaa", sum := "869c6b7a21defd0b165a0540e35d5a3508ff7a732ac8c7af659e98fd791b7d51", checked := Try.checked }
namespace Rows
def none {H : Type} : Left H := { results := [], args := [] }

/-- 'aerielaw10.PusShort': WHATEVER THE INPUT: true; the input reads as it did. -/
def pusShortSpec : ChangeSpec := { name := "pusShort", fn := fun _ => fun
  | [d1, d2, d3] => { results := [.lit (.bool true)], args := [d1, d2, d3] }
  | _ => none }
def pusShortRow : OpenClaim := { program := "ytpblllkkcpahgaa", sum := "869c6b7a21defd0b165a0540e35d5a3508ff7a732ac8c7af659e98fd791b7d51", func := "aerie/aerielaw10.PusShort", spec := "pusShort", plainKeys := false, apart := false }
def PusShortSaid : Prop := pusShortRow.holds Try.pinned (OpenSpec.ofChange pusShortSpec)

/-- ITS FALSE NEIGHBOUR: 'it returns false'. Refute it at one input. -/
def pusShortWrong : ChangeSpec := { name := "pusShort", fn := fun _ => fun
  | [d1, d2, d3] => { results := [.lit (.bool false)], args := [d1, d2, d3] }
  | _ => none }
def PusShortWrongFalsely : Prop := pusShortRow.holds Try.pinned (OpenSpec.ofChange pusShortWrong)

/-- 'aerielaw10.PusNumbers': WHATEVER THE INPUT: true; the input reads as it did. -/
def pusNumbersSpec : ChangeSpec := { name := "pusNumbers", fn := fun _ => fun
  | [d1, d2, d3] => { results := [.lit (.bool true)], args := [d1, d2, d3] }
  | _ => none }
def pusNumbersRow : OpenClaim := { program := "ytpblllkkcpahgaa", sum := "869c6b7a21defd0b165a0540e35d5a3508ff7a732ac8c7af659e98fd791b7d51", func := "aerie/aerielaw10.PusNumbers", spec := "pusNumbers", plainKeys := false, apart := false }
def PusNumbersSaid : Prop := pusNumbersRow.holds Try.pinned (OpenSpec.ofChange pusNumbersSpec)

/-- ITS FALSE NEIGHBOUR: 'it returns false'. Refute it at one input. -/
def pusNumbersWrong : ChangeSpec := { name := "pusNumbers", fn := fun _ => fun
  | [d1, d2, d3] => { results := [.lit (.bool false)], args := [d1, d2, d3] }
  | _ => none }
def PusNumbersWrongFalsely : Prop := pusNumbersRow.holds Try.pinned (OpenSpec.ofChange pusNumbersWrong)

/-- 'aerielaw09.PacketSame': WHATEVER THE INPUT: true; the input reads as it did. -/
def packetSameSpec : ChangeSpec := { name := "packetSame", fn := fun _ => fun
  | [d1, d2, d3] => { results := [.lit (.bool true)], args := [d1, d2, d3] }
  | _ => none }
def packetSameRow : OpenClaim := { program := "ytpblllkkcpahgaa", sum := "869c6b7a21defd0b165a0540e35d5a3508ff7a732ac8c7af659e98fd791b7d51", func := "aerie/aerielaw09.PacketSame", spec := "packetSame", inPlace := ["internal/bytealg.MakeNoZero"], plainKeys := false, apart := false }
def PacketSameSaid : Prop := packetSameRow.holds Try.pinned (OpenSpec.ofChange packetSameSpec)

/-- ITS FALSE NEIGHBOUR: 'it returns false'. Refute it at one input. -/
def packetSameWrong : ChangeSpec := { name := "packetSame", fn := fun _ => fun
  | [d1, d2, d3] => { results := [.lit (.bool false)], args := [d1, d2, d3] }
  | _ => none }
def PacketSameWrongFalsely : Prop := packetSameRow.holds Try.pinned (OpenSpec.ofChange packetSameWrong)

/-- 'aerielaw09.PacketSplits': WHATEVER THE INPUT: true; the input reads as it did. -/
def packetSplitsSpec : ChangeSpec := { name := "packetSplits", fn := fun _ => fun
  | [d1, d2] => { results := [.lit (.bool true)], args := [d1, d2] }
  | _ => none }
def packetSplitsRow : OpenClaim := { program := "ytpblllkkcpahgaa", sum := "869c6b7a21defd0b165a0540e35d5a3508ff7a732ac8c7af659e98fd791b7d51", func := "aerie/aerielaw09.PacketSplits", spec := "packetSplits", inPlace := ["internal/bytealg.MakeNoZero"], plainKeys := false, apart := false }
def PacketSplitsSaid : Prop := packetSplitsRow.holds Try.pinned (OpenSpec.ofChange packetSplitsSpec)

/-- ITS FALSE NEIGHBOUR: 'it returns false'. Refute it at one input. -/
def packetSplitsWrong : ChangeSpec := { name := "packetSplits", fn := fun _ => fun
  | [d1, d2] => { results := [.lit (.bool false)], args := [d1, d2] }
  | _ => none }
def PacketSplitsWrongFalsely : Prop := packetSplitsRow.holds Try.pinned (OpenSpec.ofChange packetSplitsWrong)

/-- 'aerielaw09.PacketForms': WHATEVER THE INPUT: true; the input reads as it did. -/
def packetFormsSpec : ChangeSpec := { name := "packetForms", fn := fun _ => fun
  | [d1, d2, d3, d4, d5] => { results := [.lit (.bool true)], args := [d1, d2, d3, d4, d5] }
  | _ => none }
def packetFormsRow : OpenClaim := { program := "ytpblllkkcpahgaa", sum := "869c6b7a21defd0b165a0540e35d5a3508ff7a732ac8c7af659e98fd791b7d51", func := "aerie/aerielaw09.PacketForms", spec := "packetForms", inPlace := ["internal/bytealg.MakeNoZero"], plainKeys := false, apart := false }
def PacketFormsSaid : Prop := packetFormsRow.holds Try.pinned (OpenSpec.ofChange packetFormsSpec)

/-- ITS FALSE NEIGHBOUR: 'it returns false'. Refute it at one input. -/
def packetFormsWrong : ChangeSpec := { name := "packetForms", fn := fun _ => fun
  | [d1, d2, d3, d4, d5] => { results := [.lit (.bool false)], args := [d1, d2, d3, d4, d5] }
  | _ => none }
def PacketFormsWrongFalsely : Prop := packetFormsRow.holds Try.pinned (OpenSpec.ofChange packetFormsWrong)

/-- 'aerielaw09.PacketLong': WHATEVER THE INPUT: true; the input reads as it did. -/
def packetLongSpec : ChangeSpec := { name := "packetLong", fn := fun _ => fun
  | [d1, d2, d3] => { results := [.lit (.bool true)], args := [d1, d2, d3] }
  | _ => none }
def packetLongRow : OpenClaim := { program := "ytpblllkkcpahgaa", sum := "869c6b7a21defd0b165a0540e35d5a3508ff7a732ac8c7af659e98fd791b7d51", func := "aerie/aerielaw09.PacketLong", spec := "packetLong", inPlace := ["internal/bytealg.MakeNoZero"], plainKeys := false, apart := false }
def PacketLongSaid : Prop := packetLongRow.holds Try.pinned (OpenSpec.ofChange packetLongSpec)

/-- ITS FALSE NEIGHBOUR: 'it returns false'. Refute it at one input. -/
def packetLongWrong : ChangeSpec := { name := "packetLong", fn := fun _ => fun
  | [d1, d2, d3] => { results := [.lit (.bool false)], args := [d1, d2, d3] }
  | _ => none }
def PacketLongWrongFalsely : Prop := packetLongRow.holds Try.pinned (OpenSpec.ofChange packetLongWrong)

/-- 'aerielaw10.PusCommands': WHATEVER THE INPUT: true; the input reads as it did. -/
def pusCommandsSpec : ChangeSpec := { name := "pusCommands", fn := fun _ => fun
  | [d1, d2, d3, d4] => { results := [.lit (.bool true)], args := [d1, d2, d3, d4] }
  | _ => none }
def pusCommandsRow : OpenClaim := { program := "ytpblllkkcpahgaa", sum := "869c6b7a21defd0b165a0540e35d5a3508ff7a732ac8c7af659e98fd791b7d51", func := "aerie/aerielaw10.PusCommands", spec := "pusCommands", inPlace := ["internal/bytealg.MakeNoZero"], plainKeys := false, apart := false }
def PusCommandsSaid : Prop := pusCommandsRow.holds Try.pinned (OpenSpec.ofChange pusCommandsSpec)

/-- ITS FALSE NEIGHBOUR: 'it returns false'. Refute it at one input. -/
def pusCommandsWrong : ChangeSpec := { name := "pusCommands", fn := fun _ => fun
  | [d1, d2, d3, d4] => { results := [.lit (.bool false)], args := [d1, d2, d3, d4] }
  | _ => none }
def PusCommandsWrongFalsely : Prop := pusCommandsRow.holds Try.pinned (OpenSpec.ofChange pusCommandsWrong)

/-- 'aerielaw10.PusReports': WHATEVER THE INPUT: true; the input reads as it did. -/
def pusReportsSpec : ChangeSpec := { name := "pusReports", fn := fun _ => fun
  | [d1, d2, d3, d4] => { results := [.lit (.bool true)], args := [d1, d2, d3, d4] }
  | _ => none }
def pusReportsRow : OpenClaim := { program := "ytpblllkkcpahgaa", sum := "869c6b7a21defd0b165a0540e35d5a3508ff7a732ac8c7af659e98fd791b7d51", func := "aerie/aerielaw10.PusReports", spec := "pusReports", inPlace := ["internal/bytealg.MakeNoZero"], plainKeys := false, apart := false }
def PusReportsSaid : Prop := pusReportsRow.holds Try.pinned (OpenSpec.ofChange pusReportsSpec)

/-- ITS FALSE NEIGHBOUR: 'it returns false'. Refute it at one input. -/
def pusReportsWrong : ChangeSpec := { name := "pusReports", fn := fun _ => fun
  | [d1, d2, d3, d4] => { results := [.lit (.bool false)], args := [d1, d2, d3, d4] }
  | _ => none }
def PusReportsWrongFalsely : Prop := pusReportsRow.holds Try.pinned (OpenSpec.ofChange pusReportsWrong)

/-- 'aerielaw10.PusPackets': WHATEVER THE INPUT: true; the input reads as it did. -/
def pusPacketsSpec : ChangeSpec := { name := "pusPackets", fn := fun _ => fun
  | [d1, d2, d3, d4] => { results := [.lit (.bool true)], args := [d1, d2, d3, d4] }
  | _ => none }
def pusPacketsRow : OpenClaim := { program := "ytpblllkkcpahgaa", sum := "869c6b7a21defd0b165a0540e35d5a3508ff7a732ac8c7af659e98fd791b7d51", func := "aerie/aerielaw10.PusPackets", spec := "pusPackets", inPlace := ["internal/bytealg.MakeNoZero"], plainKeys := false, apart := false }
def PusPacketsSaid : Prop := pusPacketsRow.holds Try.pinned (OpenSpec.ofChange pusPacketsSpec)

/-- ITS FALSE NEIGHBOUR: 'it returns false'. Refute it at one input. -/
def pusPacketsWrong : ChangeSpec := { name := "pusPackets", fn := fun _ => fun
  | [d1, d2, d3, d4] => { results := [.lit (.bool false)], args := [d1, d2, d3, d4] }
  | _ => none }
def PusPacketsWrongFalsely : Prop := pusPacketsRow.holds Try.pinned (OpenSpec.ofChange pusPacketsWrong)

/-- 'aerielaw12.VerifyJudges': WHATEVER THE INPUT: true; the input reads as it did. -/
def verifyJudgesSpec : ChangeSpec := { name := "verifyJudges", fn := fun _ => fun
  | [d1, d2, d3, d4, d5, d6, d7, d8, d9, d10] => { results := [.lit (.bool true)], args := [d1, d2, d3, d4, d5, d6, d7, d8, d9, d10] }
  | _ => none }
def verifyJudgesRow : OpenClaim := { program := "ytpblllkkcpahgaa", sum := "869c6b7a21defd0b165a0540e35d5a3508ff7a732ac8c7af659e98fd791b7d51", func := "aerie/aerielaw12.VerifyJudges", spec := "verifyJudges", inPlace := ["internal/bytealg.MakeNoZero"], plainKeys := false, apart := false }
def VerifyJudgesSaid : Prop := verifyJudgesRow.holds Try.pinned (OpenSpec.ofChange verifyJudgesSpec)

/-- ITS FALSE NEIGHBOUR: 'it returns false'. Refute it at one input. -/
def verifyJudgesWrong : ChangeSpec := { name := "verifyJudges", fn := fun _ => fun
  | [d1, d2, d3, d4, d5, d6, d7, d8, d9, d10] => { results := [.lit (.bool false)], args := [d1, d2, d3, d4, d5, d6, d7, d8, d9, d10] }
  | _ => none }
def VerifyJudgesWrongFalsely : Prop := verifyJudgesRow.holds Try.pinned (OpenSpec.ofChange verifyJudgesWrong)

/-- 'aerielaw12.VerifyFirst': WHATEVER THE INPUT: true; the input reads as it did. -/
def verifyFirstSpec : ChangeSpec := { name := "verifyFirst", fn := fun _ => fun
  | [d1, d2, d3] => { results := [.lit (.bool true)], args := [d1, d2, d3] }
  | _ => none }
def verifyFirstRow : OpenClaim := { program := "ytpblllkkcpahgaa", sum := "869c6b7a21defd0b165a0540e35d5a3508ff7a732ac8c7af659e98fd791b7d51", func := "aerie/aerielaw12.VerifyFirst", spec := "verifyFirst", inPlace := ["internal/bytealg.MakeNoZero"], plainKeys := false, apart := false }
def VerifyFirstSaid : Prop := verifyFirstRow.holds Try.pinned (OpenSpec.ofChange verifyFirstSpec)

/-- ITS FALSE NEIGHBOUR: 'it returns false'. Refute it at one input. -/
def verifyFirstWrong : ChangeSpec := { name := "verifyFirst", fn := fun _ => fun
  | [d1, d2, d3] => { results := [.lit (.bool false)], args := [d1, d2, d3] }
  | _ => none }
def VerifyFirstWrongFalsely : Prop := verifyFirstRow.holds Try.pinned (OpenSpec.ofChange verifyFirstWrong)

/-- 'aerielaw12.VerifyNone': WHATEVER THE INPUT: true; the input reads as it did. -/
def verifyNoneSpec : ChangeSpec := { name := "verifyNone", fn := fun _ => fun
  | [d1, d2, d3] => { results := [.lit (.bool true)], args := [d1, d2, d3] }
  | _ => none }
def verifyNoneRow : OpenClaim := { program := "ytpblllkkcpahgaa", sum := "869c6b7a21defd0b165a0540e35d5a3508ff7a732ac8c7af659e98fd791b7d51", func := "aerie/aerielaw12.VerifyNone", spec := "verifyNone", inPlace := ["internal/bytealg.MakeNoZero"], plainKeys := false, apart := false }
def VerifyNoneSaid : Prop := verifyNoneRow.holds Try.pinned (OpenSpec.ofChange verifyNoneSpec)

/-- ITS FALSE NEIGHBOUR: 'it returns false'. Refute it at one input. -/
def verifyNoneWrong : ChangeSpec := { name := "verifyNone", fn := fun _ => fun
  | [d1, d2, d3] => { results := [.lit (.bool false)], args := [d1, d2, d3] }
  | _ => none }
def VerifyNoneWrongFalsely : Prop := verifyNoneRow.holds Try.pinned (OpenSpec.ofChange verifyNoneWrong)

/-- 'aerielaw12.VerifyTells': WHATEVER THE INPUT: true; the input reads as it did. -/
def verifyTellsSpec : ChangeSpec := { name := "verifyTells", fn := fun _ => fun
  | [d1, d2, d3, d4, d5, d6] => { results := [.lit (.bool true)], args := [d1, d2, d3, d4, d5, d6] }
  | _ => none }
def verifyTellsRow : OpenClaim := { program := "ytpblllkkcpahgaa", sum := "869c6b7a21defd0b165a0540e35d5a3508ff7a732ac8c7af659e98fd791b7d51", func := "aerie/aerielaw12.VerifyTells", spec := "verifyTells", inPlace := ["internal/bytealg.MakeNoZero"], plainKeys := false, apart := false }
def VerifyTellsSaid : Prop := verifyTellsRow.holds Try.pinned (OpenSpec.ofChange verifyTellsSpec)

/-- ITS FALSE NEIGHBOUR: 'it returns false'. Refute it at one input. -/
def verifyTellsWrong : ChangeSpec := { name := "verifyTells", fn := fun _ => fun
  | [d1, d2, d3, d4, d5, d6] => { results := [.lit (.bool false)], args := [d1, d2, d3, d4, d5, d6] }
  | _ => none }
def VerifyTellsWrongFalsely : Prop := verifyTellsRow.holds Try.pinned (OpenSpec.ofChange verifyTellsWrong)

/- THE SECOND FORM. 'bulk': how many values and letters a reading holds, each counted each time it is reached (what is shared counts as often as it is met; a slice's spare places count too). A statement '..UptoSaid' is the law's where the arguments, and the package variables that the reading takes, are together of bulk at most 1048576: NARROWER than '..Said'. Prove '..Said' where nothing that the law and all that it calls make is longer than what came in: it says more and counts as full. Else prove '..UptoSaid'. A law counts once. -/
mutual
def uptoBulk {H : Type} : DataW H → Nat
  | .lit (.string bytes) => bytes.length + 1
  | .lit _ => 1
  | .nil => 1
  | .ptr d => uptoBulk d + 1
  | .slice elems spare => uptoBulkAll elems + uptoBulkAll spare + 1
  | .agg parts => uptoBulkAll parts + 1
  | .iface _ d => uptoBulk d + 1
  | .map entries => uptoBulkEntries entries + 1
  | .held _ => 1
def uptoBulkAll {H : Type} : List (DataW H) → Nat
  | [] => 0
  | d :: r => uptoBulk d + uptoBulkAll r
def uptoBulkEntries {H : Type} : List (Lit × DataW H) → Nat
  | [] => 0
  | x :: r => uptoBulkEntry x + uptoBulkEntries r
def uptoBulkEntry {H : Type} : Lit × DataW H → Nat
  | (.string bytes, d) => bytes.length + uptoBulk d + 1
  | (_, d) => uptoBulk d + 1
 end
def uptoSmall : (H : Type) → List (DataW H) → Bool := fun _ ds => decide (uptoBulkAll ds ≤ 1048576)
def OpenSpec.upto (s : _root_.Go.ChangeSpec) : _root_.Go.OpenSpec := { _root_.Go.OpenSpec.ofChange s with cond := some uptoSmall }

/-- 'aerielaw10.PusShort', WHERE WHAT IT READS IS OF BULK AT MOST 1048576: true; the input reads as it did. -/
def pusShortUptoRow : OpenClaim := { program := "ytpblllkkcpahgaa", sum := "869c6b7a21defd0b165a0540e35d5a3508ff7a732ac8c7af659e98fd791b7d51", func := "aerie/aerielaw10.PusShort", spec := "pusShort", plainKeys := false, apart := false, narrowed := true }
def PusShortUptoSaid : Prop := pusShortUptoRow.holds Try.pinned (OpenSpec.upto pusShortSpec)

/-- 'aerielaw10.PusNumbers', WHERE WHAT IT READS IS OF BULK AT MOST 1048576: true; the input reads as it did. -/
def pusNumbersUptoRow : OpenClaim := { program := "ytpblllkkcpahgaa", sum := "869c6b7a21defd0b165a0540e35d5a3508ff7a732ac8c7af659e98fd791b7d51", func := "aerie/aerielaw10.PusNumbers", spec := "pusNumbers", plainKeys := false, apart := false, narrowed := true }
def PusNumbersUptoSaid : Prop := pusNumbersUptoRow.holds Try.pinned (OpenSpec.upto pusNumbersSpec)

/-- 'aerielaw09.PacketSame', WHERE WHAT IT READS IS OF BULK AT MOST 1048576: true; the input reads as it did. -/
def packetSameUptoRow : OpenClaim := { program := "ytpblllkkcpahgaa", sum := "869c6b7a21defd0b165a0540e35d5a3508ff7a732ac8c7af659e98fd791b7d51", func := "aerie/aerielaw09.PacketSame", spec := "packetSame", inPlace := ["internal/bytealg.MakeNoZero"], plainKeys := false, apart := false, narrowed := true }
def PacketSameUptoSaid : Prop := packetSameUptoRow.holds Try.pinned (OpenSpec.upto packetSameSpec)

/-- 'aerielaw09.PacketSplits', WHERE WHAT IT READS IS OF BULK AT MOST 1048576: true; the input reads as it did. -/
def packetSplitsUptoRow : OpenClaim := { program := "ytpblllkkcpahgaa", sum := "869c6b7a21defd0b165a0540e35d5a3508ff7a732ac8c7af659e98fd791b7d51", func := "aerie/aerielaw09.PacketSplits", spec := "packetSplits", inPlace := ["internal/bytealg.MakeNoZero"], plainKeys := false, apart := false, narrowed := true }
def PacketSplitsUptoSaid : Prop := packetSplitsUptoRow.holds Try.pinned (OpenSpec.upto packetSplitsSpec)

/-- 'aerielaw09.PacketForms', WHERE WHAT IT READS IS OF BULK AT MOST 1048576: true; the input reads as it did. -/
def packetFormsUptoRow : OpenClaim := { program := "ytpblllkkcpahgaa", sum := "869c6b7a21defd0b165a0540e35d5a3508ff7a732ac8c7af659e98fd791b7d51", func := "aerie/aerielaw09.PacketForms", spec := "packetForms", inPlace := ["internal/bytealg.MakeNoZero"], plainKeys := false, apart := false, narrowed := true }
def PacketFormsUptoSaid : Prop := packetFormsUptoRow.holds Try.pinned (OpenSpec.upto packetFormsSpec)

/-- 'aerielaw09.PacketLong', WHERE WHAT IT READS IS OF BULK AT MOST 1048576: true; the input reads as it did. -/
def packetLongUptoRow : OpenClaim := { program := "ytpblllkkcpahgaa", sum := "869c6b7a21defd0b165a0540e35d5a3508ff7a732ac8c7af659e98fd791b7d51", func := "aerie/aerielaw09.PacketLong", spec := "packetLong", inPlace := ["internal/bytealg.MakeNoZero"], plainKeys := false, apart := false, narrowed := true }
def PacketLongUptoSaid : Prop := packetLongUptoRow.holds Try.pinned (OpenSpec.upto packetLongSpec)

/-- 'aerielaw10.PusCommands', WHERE WHAT IT READS IS OF BULK AT MOST 1048576: true; the input reads as it did. -/
def pusCommandsUptoRow : OpenClaim := { program := "ytpblllkkcpahgaa", sum := "869c6b7a21defd0b165a0540e35d5a3508ff7a732ac8c7af659e98fd791b7d51", func := "aerie/aerielaw10.PusCommands", spec := "pusCommands", inPlace := ["internal/bytealg.MakeNoZero"], plainKeys := false, apart := false, narrowed := true }
def PusCommandsUptoSaid : Prop := pusCommandsUptoRow.holds Try.pinned (OpenSpec.upto pusCommandsSpec)

/-- 'aerielaw10.PusReports', WHERE WHAT IT READS IS OF BULK AT MOST 1048576: true; the input reads as it did. -/
def pusReportsUptoRow : OpenClaim := { program := "ytpblllkkcpahgaa", sum := "869c6b7a21defd0b165a0540e35d5a3508ff7a732ac8c7af659e98fd791b7d51", func := "aerie/aerielaw10.PusReports", spec := "pusReports", inPlace := ["internal/bytealg.MakeNoZero"], plainKeys := false, apart := false, narrowed := true }
def PusReportsUptoSaid : Prop := pusReportsUptoRow.holds Try.pinned (OpenSpec.upto pusReportsSpec)

/-- 'aerielaw10.PusPackets', WHERE WHAT IT READS IS OF BULK AT MOST 1048576: true; the input reads as it did. -/
def pusPacketsUptoRow : OpenClaim := { program := "ytpblllkkcpahgaa", sum := "869c6b7a21defd0b165a0540e35d5a3508ff7a732ac8c7af659e98fd791b7d51", func := "aerie/aerielaw10.PusPackets", spec := "pusPackets", inPlace := ["internal/bytealg.MakeNoZero"], plainKeys := false, apart := false, narrowed := true }
def PusPacketsUptoSaid : Prop := pusPacketsUptoRow.holds Try.pinned (OpenSpec.upto pusPacketsSpec)

/-- 'aerielaw12.VerifyJudges', WHERE WHAT IT READS IS OF BULK AT MOST 1048576: true; the input reads as it did. -/
def verifyJudgesUptoRow : OpenClaim := { program := "ytpblllkkcpahgaa", sum := "869c6b7a21defd0b165a0540e35d5a3508ff7a732ac8c7af659e98fd791b7d51", func := "aerie/aerielaw12.VerifyJudges", spec := "verifyJudges", inPlace := ["internal/bytealg.MakeNoZero"], plainKeys := false, apart := false, narrowed := true }
def VerifyJudgesUptoSaid : Prop := verifyJudgesUptoRow.holds Try.pinned (OpenSpec.upto verifyJudgesSpec)

/-- 'aerielaw12.VerifyFirst', WHERE WHAT IT READS IS OF BULK AT MOST 1048576: true; the input reads as it did. -/
def verifyFirstUptoRow : OpenClaim := { program := "ytpblllkkcpahgaa", sum := "869c6b7a21defd0b165a0540e35d5a3508ff7a732ac8c7af659e98fd791b7d51", func := "aerie/aerielaw12.VerifyFirst", spec := "verifyFirst", inPlace := ["internal/bytealg.MakeNoZero"], plainKeys := false, apart := false, narrowed := true }
def VerifyFirstUptoSaid : Prop := verifyFirstUptoRow.holds Try.pinned (OpenSpec.upto verifyFirstSpec)

/-- 'aerielaw12.VerifyNone', WHERE WHAT IT READS IS OF BULK AT MOST 1048576: true; the input reads as it did. -/
def verifyNoneUptoRow : OpenClaim := { program := "ytpblllkkcpahgaa", sum := "869c6b7a21defd0b165a0540e35d5a3508ff7a732ac8c7af659e98fd791b7d51", func := "aerie/aerielaw12.VerifyNone", spec := "verifyNone", inPlace := ["internal/bytealg.MakeNoZero"], plainKeys := false, apart := false, narrowed := true }
def VerifyNoneUptoSaid : Prop := verifyNoneUptoRow.holds Try.pinned (OpenSpec.upto verifyNoneSpec)

/-- 'aerielaw12.VerifyTells', WHERE WHAT IT READS IS OF BULK AT MOST 1048576: true; the input reads as it did. -/
def verifyTellsUptoRow : OpenClaim := { program := "ytpblllkkcpahgaa", sum := "869c6b7a21defd0b165a0540e35d5a3508ff7a732ac8c7af659e98fd791b7d51", func := "aerie/aerielaw12.VerifyTells", spec := "verifyTells", inPlace := ["internal/bytealg.MakeNoZero"], plainKeys := false, apart := false, narrowed := true }
def VerifyTellsUptoSaid : Prop := verifyTellsUptoRow.holds Try.pinned (OpenSpec.upto verifyTellsSpec)

end Rows
end Go.Proofs.Ytpblllkkcpahgaa
