/-
  No cell of these rows narrows 'for every input' (looked for: loops, veiled, ifaces, maps, wideKeys, modest, calm, conditions, laid).
  DERIVED. THE GIVEN ROWS OF THIS SEAT. 13 by the template 'for every input the law returns true; each argument reads behind the call as it read before'; 0 by the template 'total and deterministic' (their statements: YtjbjnkjilgndmaaTotals.lean).
  GIVEN WITH THE SEED: the statements are not yours to turn. If you find one false, say at which input.
  Laid BY PROGRAM, IN A SANDBOX (cutbox-rows.mjs): the forced cells as the released guide's own fill.sh prints them over the translation 17590114bcfbf919… (all of the seat's roots in one cut). By AI agents, Wed Nov 11 2026. No macro, syntax, notation, axiom, sorry.
-/
import Derived.Test.YtjbjnkjilgndmaaChecked
import GoSem.Claim
import GoSem.ClaimJoined
import GoSem.ClaimMapViews
import Derived.JoinedTies
import Derived.KernelRfl
namespace Go.Proofs.Ytjbjnkjilgndmaa
/- THE CELL 'sum', in the pinned program and in every row, IS THE sha256 OF THE DUMP (.gsa) THAT YtjbjnkjilgndmaaProg.lean LOADS. Nothing in Lean hashes anything: it is a label: what it is worth is what the hold of that sum in a sandbox is worth. -/
noncomputable def Try.pinned : Pinned := { name := "ytjbjnkjilgndmaa", sum := "17590114bcfbf9190220295f6d86a03044b45c35861cc3ea41dbad9a06aedc8a", checked := Try.checked }
namespace Rows
def none {H : Type} : Left H := { results := [], args := [] }

/-- 'aerielaw03.RingCounts': WHATEVER THE INPUT: true; the input reads as it did. -/
def ringCountsSpec : ChangeSpec := { name := "ringCounts", fn := fun _ => fun
  | [d] => { results := [.lit (.bool true)], args := [d] }
  | _ => none }
def ringCountsRow : OpenClaim := { program := "ytjbjnkjilgndmaa", sum := "17590114bcfbf9190220295f6d86a03044b45c35861cc3ea41dbad9a06aedc8a", func := "aerie/aerielaw03.RingCounts", spec := "ringCounts", apart := false }
def RingCountsSaid : Prop := ringCountsRow.holds Try.pinned (OpenSpec.ofChange ringCountsSpec)

/-- ITS FALSE NEIGHBOUR: 'it returns false'. Refute it at one input. -/
def ringCountsWrong : ChangeSpec := { name := "ringCounts", fn := fun _ => fun
  | [d] => { results := [.lit (.bool false)], args := [d] }
  | _ => none }
def RingCountsWrongFalsely : Prop := ringCountsRow.holds Try.pinned (OpenSpec.ofChange ringCountsWrong)

/-- 'aerielaw03.RingMany': WHATEVER THE INPUT: true; the input reads as it did. -/
def ringManySpec : ChangeSpec := { name := "ringMany", fn := fun _ => fun
  | [d1, d2] => { results := [.lit (.bool true)], args := [d1, d2] }
  | _ => none }
def ringManyRow : OpenClaim := { program := "ytjbjnkjilgndmaa", sum := "17590114bcfbf9190220295f6d86a03044b45c35861cc3ea41dbad9a06aedc8a", func := "aerie/aerielaw03.RingMany", spec := "ringMany", unfollowed := true, recurses := true, apart := false }
def RingManySaid : Prop := ringManyRow.holds Try.pinned (OpenSpec.ofChange ringManySpec)

/-- ITS FALSE NEIGHBOUR: 'it returns false'. Refute it at one input. -/
def ringManyWrong : ChangeSpec := { name := "ringMany", fn := fun _ => fun
  | [d1, d2] => { results := [.lit (.bool false)], args := [d1, d2] }
  | _ => none }
def RingManyWrongFalsely : Prop := ringManyRow.holds Try.pinned (OpenSpec.ofChange ringManyWrong)

/-- 'aerielaw03.RingQueues': WHATEVER THE INPUT: true; the input reads as it did. -/
def ringQueuesSpec : ChangeSpec := { name := "ringQueues", fn := fun _ => fun
  | [d1, d2] => { results := [.lit (.bool true)], args := [d1, d2] }
  | _ => none }
def ringQueuesRow : OpenClaim := { program := "ytjbjnkjilgndmaa", sum := "17590114bcfbf9190220295f6d86a03044b45c35861cc3ea41dbad9a06aedc8a", func := "aerie/aerielaw03.RingQueues", spec := "ringQueues", apart := false }
def RingQueuesSaid : Prop := ringQueuesRow.holds Try.pinned (OpenSpec.ofChange ringQueuesSpec)

/-- ITS FALSE NEIGHBOUR: 'it returns false'. Refute it at one input. -/
def ringQueuesWrong : ChangeSpec := { name := "ringQueues", fn := fun _ => fun
  | [d1, d2] => { results := [.lit (.bool false)], args := [d1, d2] }
  | _ => none }
def RingQueuesWrongFalsely : Prop := ringQueuesRow.holds Try.pinned (OpenSpec.ofChange ringQueuesWrong)

/-- 'aerielaw11.QueueCounts': WHATEVER THE INPUT: true; the input reads as it did. -/
def queueCountsSpec : ChangeSpec := { name := "queueCounts", fn := fun _ => fun
  | [d1, d2, d3] => { results := [.lit (.bool true)], args := [d1, d2, d3] }
  | _ => none }
def queueCountsRow : OpenClaim := { program := "ytjbjnkjilgndmaa", sum := "17590114bcfbf9190220295f6d86a03044b45c35861cc3ea41dbad9a06aedc8a", func := "aerie/aerielaw11.QueueCounts", spec := "queueCounts", apart := false }
def QueueCountsSaid : Prop := queueCountsRow.holds Try.pinned (OpenSpec.ofChange queueCountsSpec)

/-- ITS FALSE NEIGHBOUR: 'it returns false'. Refute it at one input. -/
def queueCountsWrong : ChangeSpec := { name := "queueCounts", fn := fun _ => fun
  | [d1, d2, d3] => { results := [.lit (.bool false)], args := [d1, d2, d3] }
  | _ => none }
def QueueCountsWrongFalsely : Prop := queueCountsRow.holds Try.pinned (OpenSpec.ofChange queueCountsWrong)

/-- 'aerielaw03.RingPlays': WHATEVER THE INPUT: true; the input reads as it did. -/
def ringPlaysSpec : ChangeSpec := { name := "ringPlays", fn := fun _ => fun
  | [d1, d2, d3, d4] => { results := [.lit (.bool true)], args := [d1, d2, d3, d4] }
  | _ => none }
def ringPlaysRow : OpenClaim := { program := "ytjbjnkjilgndmaa", sum := "17590114bcfbf9190220295f6d86a03044b45c35861cc3ea41dbad9a06aedc8a", func := "aerie/aerielaw03.RingPlays", spec := "ringPlays", unfollowed := true, recurses := true, apart := false }
def RingPlaysSaid : Prop := ringPlaysRow.holds Try.pinned (OpenSpec.ofChange ringPlaysSpec)

/-- ITS FALSE NEIGHBOUR: 'it returns false'. Refute it at one input. -/
def ringPlaysWrong : ChangeSpec := { name := "ringPlays", fn := fun _ => fun
  | [d1, d2, d3, d4] => { results := [.lit (.bool false)], args := [d1, d2, d3, d4] }
  | _ => none }
def RingPlaysWrongFalsely : Prop := ringPlaysRow.holds Try.pinned (OpenSpec.ofChange ringPlaysWrong)

/-- 'aerielaw03.RingArgs': WHATEVER THE INPUT: true; the input reads as it did. -/
def ringArgsSpec : ChangeSpec := { name := "ringArgs", fn := fun _ => fun
  | [d1, d2, d3] => { results := [.lit (.bool true)], args := [d1, d2, d3] }
  | _ => none }
def ringArgsRow : OpenClaim := { program := "ytjbjnkjilgndmaa", sum := "17590114bcfbf9190220295f6d86a03044b45c35861cc3ea41dbad9a06aedc8a", func := "aerie/aerielaw03.RingArgs", spec := "ringArgs", unfollowed := true, recurses := true, apart := false }
def RingArgsSaid : Prop := ringArgsRow.holds Try.pinned (OpenSpec.ofChange ringArgsSpec)

/-- ITS FALSE NEIGHBOUR: 'it returns false'. Refute it at one input. -/
def ringArgsWrong : ChangeSpec := { name := "ringArgs", fn := fun _ => fun
  | [d1, d2, d3] => { results := [.lit (.bool false)], args := [d1, d2, d3] }
  | _ => none }
def RingArgsWrongFalsely : Prop := ringArgsRow.holds Try.pinned (OpenSpec.ofChange ringArgsWrong)

/-- 'aerielaw17.JournalAges': WHATEVER THE INPUT: true; the input reads as it did. -/
def journalAgesSpec : ChangeSpec := { name := "journalAges", fn := fun _ => fun
  | [d1, d2, d3] => { results := [.lit (.bool true)], args := [d1, d2, d3] }
  | _ => none }
def journalAgesRow : OpenClaim := { program := "ytjbjnkjilgndmaa", sum := "17590114bcfbf9190220295f6d86a03044b45c35861cc3ea41dbad9a06aedc8a", func := "aerie/aerielaw17.JournalAges", spec := "journalAges", unfollowed := true, recurses := true, apart := false }
def JournalAgesSaid : Prop := journalAgesRow.holds Try.pinned (OpenSpec.ofChange journalAgesSpec)

/-- ITS FALSE NEIGHBOUR: 'it returns false'. Refute it at one input. -/
def journalAgesWrong : ChangeSpec := { name := "journalAges", fn := fun _ => fun
  | [d1, d2, d3] => { results := [.lit (.bool false)], args := [d1, d2, d3] }
  | _ => none }
def JournalAgesWrongFalsely : Prop := journalAgesRow.holds Try.pinned (OpenSpec.ofChange journalAgesWrong)

/-- 'aerielaw11.QueueOwns': WHATEVER THE INPUT: true; the input reads as it did. -/
def queueOwnsSpec : ChangeSpec := { name := "queueOwns", fn := fun _ => fun
  | [d1, d2, d3] => { results := [.lit (.bool true)], args := [d1, d2, d3] }
  | _ => none }
def queueOwnsRow : OpenClaim := { program := "ytjbjnkjilgndmaa", sum := "17590114bcfbf9190220295f6d86a03044b45c35861cc3ea41dbad9a06aedc8a", func := "aerie/aerielaw11.QueueOwns", spec := "queueOwns", unfollowed := true, recurses := true, apart := false }
def QueueOwnsSaid : Prop := queueOwnsRow.holds Try.pinned (OpenSpec.ofChange queueOwnsSpec)

/-- ITS FALSE NEIGHBOUR: 'it returns false'. Refute it at one input. -/
def queueOwnsWrong : ChangeSpec := { name := "queueOwns", fn := fun _ => fun
  | [d1, d2, d3] => { results := [.lit (.bool false)], args := [d1, d2, d3] }
  | _ => none }
def QueueOwnsWrongFalsely : Prop := queueOwnsRow.holds Try.pinned (OpenSpec.ofChange queueOwnsWrong)

/-- 'aerielaw17.JournalKeeps': WHATEVER THE INPUT: true; the input reads as it did. -/
def journalKeepsSpec : ChangeSpec := { name := "journalKeeps", fn := fun _ => fun
  | [d1, d2, d3, d4] => { results := [.lit (.bool true)], args := [d1, d2, d3, d4] }
  | _ => none }
def journalKeepsRow : OpenClaim := { program := "ytjbjnkjilgndmaa", sum := "17590114bcfbf9190220295f6d86a03044b45c35861cc3ea41dbad9a06aedc8a", func := "aerie/aerielaw17.JournalKeeps", spec := "journalKeeps", unfollowed := true, recurses := true, apart := false }
def JournalKeepsSaid : Prop := journalKeepsRow.holds Try.pinned (OpenSpec.ofChange journalKeepsSpec)

/-- ITS FALSE NEIGHBOUR: 'it returns false'. Refute it at one input. -/
def journalKeepsWrong : ChangeSpec := { name := "journalKeeps", fn := fun _ => fun
  | [d1, d2, d3, d4] => { results := [.lit (.bool false)], args := [d1, d2, d3, d4] }
  | _ => none }
def JournalKeepsWrongFalsely : Prop := journalKeepsRow.holds Try.pinned (OpenSpec.ofChange journalKeepsWrong)

/-- 'aerielaw17.JournalArgs': WHATEVER THE INPUT: true; the input reads as it did. -/
def journalArgsSpec : ChangeSpec := { name := "journalArgs", fn := fun _ => fun
  | [d1, d2] => { results := [.lit (.bool true)], args := [d1, d2] }
  | _ => none }
def journalArgsRow : OpenClaim := { program := "ytjbjnkjilgndmaa", sum := "17590114bcfbf9190220295f6d86a03044b45c35861cc3ea41dbad9a06aedc8a", func := "aerie/aerielaw17.JournalArgs", spec := "journalArgs", unfollowed := true, recurses := true, apart := false }
def JournalArgsSaid : Prop := journalArgsRow.holds Try.pinned (OpenSpec.ofChange journalArgsSpec)

/-- ITS FALSE NEIGHBOUR: 'it returns false'. Refute it at one input. -/
def journalArgsWrong : ChangeSpec := { name := "journalArgs", fn := fun _ => fun
  | [d1, d2] => { results := [.lit (.bool false)], args := [d1, d2] }
  | _ => none }
def JournalArgsWrongFalsely : Prop := journalArgsRow.holds Try.pinned (OpenSpec.ofChange journalArgsWrong)

/-- 'aerielaw11.QueueArgs': WHATEVER THE INPUT: true; the input reads as it did. -/
def queueArgsSpec : ChangeSpec := { name := "queueArgs", fn := fun _ => fun
  | [d1, d2, d3] => { results := [.lit (.bool true)], args := [d1, d2, d3] }
  | _ => none }
def queueArgsRow : OpenClaim := { program := "ytjbjnkjilgndmaa", sum := "17590114bcfbf9190220295f6d86a03044b45c35861cc3ea41dbad9a06aedc8a", func := "aerie/aerielaw11.QueueArgs", spec := "queueArgs", unfollowed := true, recurses := true, apart := false }
def QueueArgsSaid : Prop := queueArgsRow.holds Try.pinned (OpenSpec.ofChange queueArgsSpec)

/-- ITS FALSE NEIGHBOUR: 'it returns false'. Refute it at one input. -/
def queueArgsWrong : ChangeSpec := { name := "queueArgs", fn := fun _ => fun
  | [d1, d2, d3] => { results := [.lit (.bool false)], args := [d1, d2, d3] }
  | _ => none }
def QueueArgsWrongFalsely : Prop := queueArgsRow.holds Try.pinned (OpenSpec.ofChange queueArgsWrong)

/-- 'aerielaw11.QueuePlays': WHATEVER THE INPUT: true; the input reads as it did. -/
def queuePlaysSpec : ChangeSpec := { name := "queuePlays", fn := fun _ => fun
  | [d1, d2, d3, d4] => { results := [.lit (.bool true)], args := [d1, d2, d3, d4] }
  | _ => none }
def queuePlaysRow : OpenClaim := { program := "ytjbjnkjilgndmaa", sum := "17590114bcfbf9190220295f6d86a03044b45c35861cc3ea41dbad9a06aedc8a", func := "aerie/aerielaw11.QueuePlays", spec := "queuePlays", unfollowed := true, recurses := true, apart := false }
def QueuePlaysSaid : Prop := queuePlaysRow.holds Try.pinned (OpenSpec.ofChange queuePlaysSpec)

/-- ITS FALSE NEIGHBOUR: 'it returns false'. Refute it at one input. -/
def queuePlaysWrong : ChangeSpec := { name := "queuePlays", fn := fun _ => fun
  | [d1, d2, d3, d4] => { results := [.lit (.bool false)], args := [d1, d2, d3, d4] }
  | _ => none }
def QueuePlaysWrongFalsely : Prop := queuePlaysRow.holds Try.pinned (OpenSpec.ofChange queuePlaysWrong)

/-- 'aerielaw17.JournalReports': WHATEVER THE INPUT: true; the input reads as it did. -/
def journalReportsSpec : ChangeSpec := { name := "journalReports", fn := fun _ => fun
  | [d1, d2, d3] => { results := [.lit (.bool true)], args := [d1, d2, d3] }
  | _ => none }
def journalReportsRow : OpenClaim := { program := "ytjbjnkjilgndmaa", sum := "17590114bcfbf9190220295f6d86a03044b45c35861cc3ea41dbad9a06aedc8a", func := "aerie/aerielaw17.JournalReports", spec := "journalReports", unfollowed := true, recurses := true, apart := false }
def JournalReportsSaid : Prop := journalReportsRow.holds Try.pinned (OpenSpec.ofChange journalReportsSpec)

/-- ITS FALSE NEIGHBOUR: 'it returns false'. Refute it at one input. -/
def journalReportsWrong : ChangeSpec := { name := "journalReports", fn := fun _ => fun
  | [d1, d2, d3] => { results := [.lit (.bool false)], args := [d1, d2, d3] }
  | _ => none }
def JournalReportsWrongFalsely : Prop := journalReportsRow.holds Try.pinned (OpenSpec.ofChange journalReportsWrong)

/- THE SECOND FORM. 'bulk': how many values and letters a reading holds, each counted each time it is reached (what is shared counts as often as it is met; a slice's spare places count too). A statement '..UptoSaid' is the law's where the arguments, and the package variables that the reading takes, are together of bulk at most 1048576: NARROWER than '..Said'. Prove '..Said' where nothing that the law and all that it calls make is longer than what came in: it says more and counts as full. Else prove '..UptoSaid'. A law counts once. -/
mutual
def uptoBulk {H : Type} : DataW H → Nat
  | .lit (.string bytes) => bytes.length + 1
  | .lit _ => 1
  | .nil => 1
  | .ptr d => uptoBulk d + 1
  | .slice elems spare => uptoBulkAll elems + uptoBulkAll spare + 1
  | .agg parts => uptoBulkAll parts + 1
  | .iface _ d => uptoBulk d + 1
  | .map entries => uptoBulkEntries entries + 1
  | .held _ => 1
def uptoBulkAll {H : Type} : List (DataW H) → Nat
  | [] => 0
  | d :: r => uptoBulk d + uptoBulkAll r
def uptoBulkEntries {H : Type} : List (Lit × DataW H) → Nat
  | [] => 0
  | x :: r => uptoBulkEntry x + uptoBulkEntries r
def uptoBulkEntry {H : Type} : Lit × DataW H → Nat
  | (.string bytes, d) => bytes.length + uptoBulk d + 1
  | (_, d) => uptoBulk d + 1
 end
def uptoSmall : (H : Type) → List (DataW H) → Bool := fun _ ds => decide (uptoBulkAll ds ≤ 1048576)
def OpenSpec.upto (s : _root_.Go.ChangeSpec) : _root_.Go.OpenSpec := { _root_.Go.OpenSpec.ofChange s with cond := some uptoSmall }

/-- 'aerielaw03.RingCounts', WHERE WHAT IT READS IS OF BULK AT MOST 1048576: true; the input reads as it did. -/
def ringCountsUptoRow : OpenClaim := { program := "ytjbjnkjilgndmaa", sum := "17590114bcfbf9190220295f6d86a03044b45c35861cc3ea41dbad9a06aedc8a", func := "aerie/aerielaw03.RingCounts", spec := "ringCounts", apart := false, narrowed := true }
def RingCountsUptoSaid : Prop := ringCountsUptoRow.holds Try.pinned (OpenSpec.upto ringCountsSpec)

/-- 'aerielaw03.RingMany', WHERE WHAT IT READS IS OF BULK AT MOST 1048576: true; the input reads as it did. -/
def ringManyUptoRow : OpenClaim := { program := "ytjbjnkjilgndmaa", sum := "17590114bcfbf9190220295f6d86a03044b45c35861cc3ea41dbad9a06aedc8a", func := "aerie/aerielaw03.RingMany", spec := "ringMany", unfollowed := true, recurses := true, apart := false, narrowed := true }
def RingManyUptoSaid : Prop := ringManyUptoRow.holds Try.pinned (OpenSpec.upto ringManySpec)

/-- 'aerielaw03.RingQueues', WHERE WHAT IT READS IS OF BULK AT MOST 1048576: true; the input reads as it did. -/
def ringQueuesUptoRow : OpenClaim := { program := "ytjbjnkjilgndmaa", sum := "17590114bcfbf9190220295f6d86a03044b45c35861cc3ea41dbad9a06aedc8a", func := "aerie/aerielaw03.RingQueues", spec := "ringQueues", apart := false, narrowed := true }
def RingQueuesUptoSaid : Prop := ringQueuesUptoRow.holds Try.pinned (OpenSpec.upto ringQueuesSpec)

/-- 'aerielaw11.QueueCounts', WHERE WHAT IT READS IS OF BULK AT MOST 1048576: true; the input reads as it did. -/
def queueCountsUptoRow : OpenClaim := { program := "ytjbjnkjilgndmaa", sum := "17590114bcfbf9190220295f6d86a03044b45c35861cc3ea41dbad9a06aedc8a", func := "aerie/aerielaw11.QueueCounts", spec := "queueCounts", apart := false, narrowed := true }
def QueueCountsUptoSaid : Prop := queueCountsUptoRow.holds Try.pinned (OpenSpec.upto queueCountsSpec)

/-- 'aerielaw03.RingPlays', WHERE WHAT IT READS IS OF BULK AT MOST 1048576: true; the input reads as it did. -/
def ringPlaysUptoRow : OpenClaim := { program := "ytjbjnkjilgndmaa", sum := "17590114bcfbf9190220295f6d86a03044b45c35861cc3ea41dbad9a06aedc8a", func := "aerie/aerielaw03.RingPlays", spec := "ringPlays", unfollowed := true, recurses := true, apart := false, narrowed := true }
def RingPlaysUptoSaid : Prop := ringPlaysUptoRow.holds Try.pinned (OpenSpec.upto ringPlaysSpec)

/-- 'aerielaw03.RingArgs', WHERE WHAT IT READS IS OF BULK AT MOST 1048576: true; the input reads as it did. -/
def ringArgsUptoRow : OpenClaim := { program := "ytjbjnkjilgndmaa", sum := "17590114bcfbf9190220295f6d86a03044b45c35861cc3ea41dbad9a06aedc8a", func := "aerie/aerielaw03.RingArgs", spec := "ringArgs", unfollowed := true, recurses := true, apart := false, narrowed := true }
def RingArgsUptoSaid : Prop := ringArgsUptoRow.holds Try.pinned (OpenSpec.upto ringArgsSpec)

/-- 'aerielaw17.JournalAges', WHERE WHAT IT READS IS OF BULK AT MOST 1048576: true; the input reads as it did. -/
def journalAgesUptoRow : OpenClaim := { program := "ytjbjnkjilgndmaa", sum := "17590114bcfbf9190220295f6d86a03044b45c35861cc3ea41dbad9a06aedc8a", func := "aerie/aerielaw17.JournalAges", spec := "journalAges", unfollowed := true, recurses := true, apart := false, narrowed := true }
def JournalAgesUptoSaid : Prop := journalAgesUptoRow.holds Try.pinned (OpenSpec.upto journalAgesSpec)

/-- 'aerielaw11.QueueOwns', WHERE WHAT IT READS IS OF BULK AT MOST 1048576: true; the input reads as it did. -/
def queueOwnsUptoRow : OpenClaim := { program := "ytjbjnkjilgndmaa", sum := "17590114bcfbf9190220295f6d86a03044b45c35861cc3ea41dbad9a06aedc8a", func := "aerie/aerielaw11.QueueOwns", spec := "queueOwns", unfollowed := true, recurses := true, apart := false, narrowed := true }
def QueueOwnsUptoSaid : Prop := queueOwnsUptoRow.holds Try.pinned (OpenSpec.upto queueOwnsSpec)

/-- 'aerielaw17.JournalKeeps', WHERE WHAT IT READS IS OF BULK AT MOST 1048576: true; the input reads as it did. -/
def journalKeepsUptoRow : OpenClaim := { program := "ytjbjnkjilgndmaa", sum := "17590114bcfbf9190220295f6d86a03044b45c35861cc3ea41dbad9a06aedc8a", func := "aerie/aerielaw17.JournalKeeps", spec := "journalKeeps", unfollowed := true, recurses := true, apart := false, narrowed := true }
def JournalKeepsUptoSaid : Prop := journalKeepsUptoRow.holds Try.pinned (OpenSpec.upto journalKeepsSpec)

/-- 'aerielaw17.JournalArgs', WHERE WHAT IT READS IS OF BULK AT MOST 1048576: true; the input reads as it did. -/
def journalArgsUptoRow : OpenClaim := { program := "ytjbjnkjilgndmaa", sum := "17590114bcfbf9190220295f6d86a03044b45c35861cc3ea41dbad9a06aedc8a", func := "aerie/aerielaw17.JournalArgs", spec := "journalArgs", unfollowed := true, recurses := true, apart := false, narrowed := true }
def JournalArgsUptoSaid : Prop := journalArgsUptoRow.holds Try.pinned (OpenSpec.upto journalArgsSpec)

/-- 'aerielaw11.QueueArgs', WHERE WHAT IT READS IS OF BULK AT MOST 1048576: true; the input reads as it did. -/
def queueArgsUptoRow : OpenClaim := { program := "ytjbjnkjilgndmaa", sum := "17590114bcfbf9190220295f6d86a03044b45c35861cc3ea41dbad9a06aedc8a", func := "aerie/aerielaw11.QueueArgs", spec := "queueArgs", unfollowed := true, recurses := true, apart := false, narrowed := true }
def QueueArgsUptoSaid : Prop := queueArgsUptoRow.holds Try.pinned (OpenSpec.upto queueArgsSpec)

/-- 'aerielaw11.QueuePlays', WHERE WHAT IT READS IS OF BULK AT MOST 1048576: true; the input reads as it did. -/
def queuePlaysUptoRow : OpenClaim := { program := "ytjbjnkjilgndmaa", sum := "17590114bcfbf9190220295f6d86a03044b45c35861cc3ea41dbad9a06aedc8a", func := "aerie/aerielaw11.QueuePlays", spec := "queuePlays", unfollowed := true, recurses := true, apart := false, narrowed := true }
def QueuePlaysUptoSaid : Prop := queuePlaysUptoRow.holds Try.pinned (OpenSpec.upto queuePlaysSpec)

/-- 'aerielaw17.JournalReports', WHERE WHAT IT READS IS OF BULK AT MOST 1048576: true; the input reads as it did. -/
def journalReportsUptoRow : OpenClaim := { program := "ytjbjnkjilgndmaa", sum := "17590114bcfbf9190220295f6d86a03044b45c35861cc3ea41dbad9a06aedc8a", func := "aerie/aerielaw17.JournalReports", spec := "journalReports", unfollowed := true, recurses := true, apart := false, narrowed := true }
def JournalReportsUptoSaid : Prop := journalReportsUptoRow.holds Try.pinned (OpenSpec.upto journalReportsSpec)

end Rows
end Go.Proofs.Ytjbjnkjilgndmaa
