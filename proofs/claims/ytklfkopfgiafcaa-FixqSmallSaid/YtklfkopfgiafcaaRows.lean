/-
  No cell of these rows narrows 'for every input' (looked for: loops, veiled, ifaces, maps, wideKeys, modest, calm, conditions, laid).
  DERIVED. THE GIVEN ROWS OF THIS SEAT. 8 by the template 'for every input the law returns true; each argument reads behind the call as it read before'; 0 by the template 'total and deterministic' (their statements: YtklfkopfgiafcaaTotals.lean).
  GIVEN WITH THE SEED: the statements are not yours to turn. If you find one false, say at which input.
  Laid BY PROGRAM, IN A SANDBOX (cutbox-rows.mjs): the forced cells as the released guide's own fill.sh prints them over the translation 795a5dbed35ec873… (all of the seat's roots in one cut). By AI agents, Wed Nov 11 2026. No macro, syntax, notation, axiom, sorry.
-/
import Derived.Test.YtklfkopfgiafcaaChecked
import GoSem.Claim
import GoSem.ClaimJoined
import GoSem.ClaimMapViews
import Derived.JoinedTies
import Derived.KernelRfl
namespace Go.Proofs.Ytklfkopfgiafcaa
/- THE CELL 'sum', in the pinned program and in every row, IS THE sha256 OF THE DUMP (.gsa) THAT YtklfkopfgiafcaaProg.lean LOADS. Nothing in Lean hashes anything: it is a label: what it is worth is what the hold of that sum in a sandbox is worth. -/
noncomputable def Try.pinned : Pinned := { name := "ytklfkopfgiafcaa", sum := "795a5dbed35ec873eaadfcf8c15fcd2c24e0ca66f4af5330bbaf5ca24daa0c53", checked := Try.checked }
namespace Rows
def none {H : Type} : Left H := { results := [], args := [] }

/-- 'aerielaw01.FixqAdds': WHATEVER THE INPUT: true; the input reads as it did. -/
def fixqAddsSpec : ChangeSpec := { name := "fixqAdds", fn := fun _ => fun
  | [d1, d2, d3, d4] => { results := [.lit (.bool true)], args := [d1, d2, d3, d4] }
  | _ => none }
def fixqAddsRow : OpenClaim := { program := "ytklfkopfgiafcaa", sum := "795a5dbed35ec873eaadfcf8c15fcd2c24e0ca66f4af5330bbaf5ca24daa0c53", func := "aerie/aerielaw01.FixqAdds", spec := "fixqAdds", apart := false }
def FixqAddsSaid : Prop := fixqAddsRow.holds Try.pinned (OpenSpec.ofChange fixqAddsSpec)

/-- ITS FALSE NEIGHBOUR: 'it returns false'. Refute it at one input. -/
def fixqAddsWrong : ChangeSpec := { name := "fixqAdds", fn := fun _ => fun
  | [d1, d2, d3, d4] => { results := [.lit (.bool false)], args := [d1, d2, d3, d4] }
  | _ => none }
def FixqAddsWrongFalsely : Prop := fixqAddsRow.holds Try.pinned (OpenSpec.ofChange fixqAddsWrong)

/-- 'aerielaw01.FixqShifts': WHATEVER THE INPUT: true; the input reads as it did. -/
def fixqShiftsSpec : ChangeSpec := { name := "fixqShifts", fn := fun _ => fun
  | [d1, d2] => { results := [.lit (.bool true)], args := [d1, d2] }
  | _ => none }
def fixqShiftsRow : OpenClaim := { program := "ytklfkopfgiafcaa", sum := "795a5dbed35ec873eaadfcf8c15fcd2c24e0ca66f4af5330bbaf5ca24daa0c53", func := "aerie/aerielaw01.FixqShifts", spec := "fixqShifts", apart := false }
def FixqShiftsSaid : Prop := fixqShiftsRow.holds Try.pinned (OpenSpec.ofChange fixqShiftsSpec)

/-- ITS FALSE NEIGHBOUR: 'it returns false'. Refute it at one input. -/
def fixqShiftsWrong : ChangeSpec := { name := "fixqShifts", fn := fun _ => fun
  | [d1, d2] => { results := [.lit (.bool false)], args := [d1, d2] }
  | _ => none }
def FixqShiftsWrongFalsely : Prop := fixqShiftsRow.holds Try.pinned (OpenSpec.ofChange fixqShiftsWrong)

/-- 'aerielaw01.FixqClamps': WHATEVER THE INPUT: true; the input reads as it did. -/
def fixqClampsSpec : ChangeSpec := { name := "fixqClamps", fn := fun _ => fun
  | [d1, d2, d3] => { results := [.lit (.bool true)], args := [d1, d2, d3] }
  | _ => none }
def fixqClampsRow : OpenClaim := { program := "ytklfkopfgiafcaa", sum := "795a5dbed35ec873eaadfcf8c15fcd2c24e0ca66f4af5330bbaf5ca24daa0c53", func := "aerie/aerielaw01.FixqClamps", spec := "fixqClamps", apart := false }
def FixqClampsSaid : Prop := fixqClampsRow.holds Try.pinned (OpenSpec.ofChange fixqClampsSpec)

/-- ITS FALSE NEIGHBOUR: 'it returns false'. Refute it at one input. -/
def fixqClampsWrong : ChangeSpec := { name := "fixqClamps", fn := fun _ => fun
  | [d1, d2, d3] => { results := [.lit (.bool false)], args := [d1, d2, d3] }
  | _ => none }
def FixqClampsWrongFalsely : Prop := fixqClampsRow.holds Try.pinned (OpenSpec.ofChange fixqClampsWrong)

/-- 'aerielaw01.FixqTimes': WHATEVER THE INPUT: true; the input reads as it did. -/
def fixqTimesSpec : ChangeSpec := { name := "fixqTimes", fn := fun _ => fun
  | [d1, d2, d3] => { results := [.lit (.bool true)], args := [d1, d2, d3] }
  | _ => none }
def fixqTimesRow : OpenClaim := { program := "ytklfkopfgiafcaa", sum := "795a5dbed35ec873eaadfcf8c15fcd2c24e0ca66f4af5330bbaf5ca24daa0c53", func := "aerie/aerielaw01.FixqTimes", spec := "fixqTimes", apart := false }
def FixqTimesSaid : Prop := fixqTimesRow.holds Try.pinned (OpenSpec.ofChange fixqTimesSpec)

/-- ITS FALSE NEIGHBOUR: 'it returns false'. Refute it at one input. -/
def fixqTimesWrong : ChangeSpec := { name := "fixqTimes", fn := fun _ => fun
  | [d1, d2, d3] => { results := [.lit (.bool false)], args := [d1, d2, d3] }
  | _ => none }
def FixqTimesWrongFalsely : Prop := fixqTimesRow.holds Try.pinned (OpenSpec.ofChange fixqTimesWrong)

/-- 'aerielaw01.FixqRoots': WHATEVER THE INPUT: true; the input reads as it did. -/
def fixqRootsSpec : ChangeSpec := { name := "fixqRoots", fn := fun _ => fun
  | [d] => { results := [.lit (.bool true)], args := [d] }
  | _ => none }
def fixqRootsRow : OpenClaim := { program := "ytklfkopfgiafcaa", sum := "795a5dbed35ec873eaadfcf8c15fcd2c24e0ca66f4af5330bbaf5ca24daa0c53", func := "aerie/aerielaw01.FixqRoots", spec := "fixqRoots", apart := false }
def FixqRootsSaid : Prop := fixqRootsRow.holds Try.pinned (OpenSpec.ofChange fixqRootsSpec)

/-- ITS FALSE NEIGHBOUR: 'it returns false'. Refute it at one input. -/
def fixqRootsWrong : ChangeSpec := { name := "fixqRoots", fn := fun _ => fun
  | [d] => { results := [.lit (.bool false)], args := [d] }
  | _ => none }
def FixqRootsWrongFalsely : Prop := fixqRootsRow.holds Try.pinned (OpenSpec.ofChange fixqRootsWrong)

/-- 'aerielaw01.FixqSums': WHATEVER THE INPUT: true; the input reads as it did. -/
def fixqSumsSpec : ChangeSpec := { name := "fixqSums", fn := fun _ => fun
  | [d] => { results := [.lit (.bool true)], args := [d] }
  | _ => none }
def fixqSumsRow : OpenClaim := { program := "ytklfkopfgiafcaa", sum := "795a5dbed35ec873eaadfcf8c15fcd2c24e0ca66f4af5330bbaf5ca24daa0c53", func := "aerie/aerielaw01.FixqSums", spec := "fixqSums", apart := false }
def FixqSumsSaid : Prop := fixqSumsRow.holds Try.pinned (OpenSpec.ofChange fixqSumsSpec)

/-- ITS FALSE NEIGHBOUR: 'it returns false'. Refute it at one input. -/
def fixqSumsWrong : ChangeSpec := { name := "fixqSums", fn := fun _ => fun
  | [d] => { results := [.lit (.bool false)], args := [d] }
  | _ => none }
def FixqSumsWrongFalsely : Prop := fixqSumsRow.holds Try.pinned (OpenSpec.ofChange fixqSumsWrong)

/-- 'aerielaw01.FixqSmall': WHATEVER THE INPUT: true; the input reads as it did. -/
def fixqSmallSpec : ChangeSpec := { name := "fixqSmall", fn := fun _ => fun
  | [d1, d2, d3] => { results := [.lit (.bool true)], args := [d1, d2, d3] }
  | _ => none }
def fixqSmallRow : OpenClaim := { program := "ytklfkopfgiafcaa", sum := "795a5dbed35ec873eaadfcf8c15fcd2c24e0ca66f4af5330bbaf5ca24daa0c53", func := "aerie/aerielaw01.FixqSmall", spec := "fixqSmall", apart := false }
def FixqSmallSaid : Prop := fixqSmallRow.holds Try.pinned (OpenSpec.ofChange fixqSmallSpec)

/-- ITS FALSE NEIGHBOUR: 'it returns false'. Refute it at one input. -/
def fixqSmallWrong : ChangeSpec := { name := "fixqSmall", fn := fun _ => fun
  | [d1, d2, d3] => { results := [.lit (.bool false)], args := [d1, d2, d3] }
  | _ => none }
def FixqSmallWrongFalsely : Prop := fixqSmallRow.holds Try.pinned (OpenSpec.ofChange fixqSmallWrong)

/-- 'aerielaw01.FixqOrders': WHATEVER THE INPUT: true; the input reads as it did. -/
def fixqOrdersSpec : ChangeSpec := { name := "fixqOrders", fn := fun _ => fun
  | [d1, d2, d3, d4, d5, d6] => { results := [.lit (.bool true)], args := [d1, d2, d3, d4, d5, d6] }
  | _ => none }
def fixqOrdersRow : OpenClaim := { program := "ytklfkopfgiafcaa", sum := "795a5dbed35ec873eaadfcf8c15fcd2c24e0ca66f4af5330bbaf5ca24daa0c53", func := "aerie/aerielaw01.FixqOrders", spec := "fixqOrders", apart := false }
def FixqOrdersSaid : Prop := fixqOrdersRow.holds Try.pinned (OpenSpec.ofChange fixqOrdersSpec)

/-- ITS FALSE NEIGHBOUR: 'it returns false'. Refute it at one input. -/
def fixqOrdersWrong : ChangeSpec := { name := "fixqOrders", fn := fun _ => fun
  | [d1, d2, d3, d4, d5, d6] => { results := [.lit (.bool false)], args := [d1, d2, d3, d4, d5, d6] }
  | _ => none }
def FixqOrdersWrongFalsely : Prop := fixqOrdersRow.holds Try.pinned (OpenSpec.ofChange fixqOrdersWrong)

/- THE SECOND FORM. 'bulk': how many values and letters a reading holds, each counted each time it is reached (what is shared counts as often as it is met; a slice's spare places count too). A statement '..UptoSaid' is the law's where the arguments, and the package variables that the reading takes, are together of bulk at most 1048576: NARROWER than '..Said'. Prove '..Said' where nothing that the law and all that it calls make is longer than what came in: it says more and counts as full. Else prove '..UptoSaid'. A law counts once. -/
mutual
def uptoBulk {H : Type} : DataW H → Nat
  | .lit (.string bytes) => bytes.length + 1
  | .lit _ => 1
  | .nil => 1
  | .ptr d => uptoBulk d + 1
  | .slice elems spare => uptoBulkAll elems + uptoBulkAll spare + 1
  | .agg parts => uptoBulkAll parts + 1
  | .iface _ d => uptoBulk d + 1
  | .map entries => uptoBulkEntries entries + 1
  | .held _ => 1
def uptoBulkAll {H : Type} : List (DataW H) → Nat
  | [] => 0
  | d :: r => uptoBulk d + uptoBulkAll r
def uptoBulkEntries {H : Type} : List (Lit × DataW H) → Nat
  | [] => 0
  | x :: r => uptoBulkEntry x + uptoBulkEntries r
def uptoBulkEntry {H : Type} : Lit × DataW H → Nat
  | (.string bytes, d) => bytes.length + uptoBulk d + 1
  | (_, d) => uptoBulk d + 1
 end
def uptoSmall : (H : Type) → List (DataW H) → Bool := fun _ ds => decide (uptoBulkAll ds ≤ 1048576)
def OpenSpec.upto (s : _root_.Go.ChangeSpec) : _root_.Go.OpenSpec := { _root_.Go.OpenSpec.ofChange s with cond := some uptoSmall }

/-- 'aerielaw01.FixqAdds', WHERE WHAT IT READS IS OF BULK AT MOST 1048576: true; the input reads as it did. -/
def fixqAddsUptoRow : OpenClaim := { program := "ytklfkopfgiafcaa", sum := "795a5dbed35ec873eaadfcf8c15fcd2c24e0ca66f4af5330bbaf5ca24daa0c53", func := "aerie/aerielaw01.FixqAdds", spec := "fixqAdds", apart := false, narrowed := true }
def FixqAddsUptoSaid : Prop := fixqAddsUptoRow.holds Try.pinned (OpenSpec.upto fixqAddsSpec)

/-- 'aerielaw01.FixqShifts', WHERE WHAT IT READS IS OF BULK AT MOST 1048576: true; the input reads as it did. -/
def fixqShiftsUptoRow : OpenClaim := { program := "ytklfkopfgiafcaa", sum := "795a5dbed35ec873eaadfcf8c15fcd2c24e0ca66f4af5330bbaf5ca24daa0c53", func := "aerie/aerielaw01.FixqShifts", spec := "fixqShifts", apart := false, narrowed := true }
def FixqShiftsUptoSaid : Prop := fixqShiftsUptoRow.holds Try.pinned (OpenSpec.upto fixqShiftsSpec)

/-- 'aerielaw01.FixqClamps', WHERE WHAT IT READS IS OF BULK AT MOST 1048576: true; the input reads as it did. -/
def fixqClampsUptoRow : OpenClaim := { program := "ytklfkopfgiafcaa", sum := "795a5dbed35ec873eaadfcf8c15fcd2c24e0ca66f4af5330bbaf5ca24daa0c53", func := "aerie/aerielaw01.FixqClamps", spec := "fixqClamps", apart := false, narrowed := true }
def FixqClampsUptoSaid : Prop := fixqClampsUptoRow.holds Try.pinned (OpenSpec.upto fixqClampsSpec)

/-- 'aerielaw01.FixqTimes', WHERE WHAT IT READS IS OF BULK AT MOST 1048576: true; the input reads as it did. -/
def fixqTimesUptoRow : OpenClaim := { program := "ytklfkopfgiafcaa", sum := "795a5dbed35ec873eaadfcf8c15fcd2c24e0ca66f4af5330bbaf5ca24daa0c53", func := "aerie/aerielaw01.FixqTimes", spec := "fixqTimes", apart := false, narrowed := true }
def FixqTimesUptoSaid : Prop := fixqTimesUptoRow.holds Try.pinned (OpenSpec.upto fixqTimesSpec)

/-- 'aerielaw01.FixqRoots', WHERE WHAT IT READS IS OF BULK AT MOST 1048576: true; the input reads as it did. -/
def fixqRootsUptoRow : OpenClaim := { program := "ytklfkopfgiafcaa", sum := "795a5dbed35ec873eaadfcf8c15fcd2c24e0ca66f4af5330bbaf5ca24daa0c53", func := "aerie/aerielaw01.FixqRoots", spec := "fixqRoots", apart := false, narrowed := true }
def FixqRootsUptoSaid : Prop := fixqRootsUptoRow.holds Try.pinned (OpenSpec.upto fixqRootsSpec)

/-- 'aerielaw01.FixqSums', WHERE WHAT IT READS IS OF BULK AT MOST 1048576: true; the input reads as it did. -/
def fixqSumsUptoRow : OpenClaim := { program := "ytklfkopfgiafcaa", sum := "795a5dbed35ec873eaadfcf8c15fcd2c24e0ca66f4af5330bbaf5ca24daa0c53", func := "aerie/aerielaw01.FixqSums", spec := "fixqSums", apart := false, narrowed := true }
def FixqSumsUptoSaid : Prop := fixqSumsUptoRow.holds Try.pinned (OpenSpec.upto fixqSumsSpec)

/-- 'aerielaw01.FixqSmall', WHERE WHAT IT READS IS OF BULK AT MOST 1048576: true; the input reads as it did. -/
def fixqSmallUptoRow : OpenClaim := { program := "ytklfkopfgiafcaa", sum := "795a5dbed35ec873eaadfcf8c15fcd2c24e0ca66f4af5330bbaf5ca24daa0c53", func := "aerie/aerielaw01.FixqSmall", spec := "fixqSmall", apart := false, narrowed := true }
def FixqSmallUptoSaid : Prop := fixqSmallUptoRow.holds Try.pinned (OpenSpec.upto fixqSmallSpec)

/-- 'aerielaw01.FixqOrders', WHERE WHAT IT READS IS OF BULK AT MOST 1048576: true; the input reads as it did. -/
def fixqOrdersUptoRow : OpenClaim := { program := "ytklfkopfgiafcaa", sum := "795a5dbed35ec873eaadfcf8c15fcd2c24e0ca66f4af5330bbaf5ca24daa0c53", func := "aerie/aerielaw01.FixqOrders", spec := "fixqOrders", apart := false, narrowed := true }
def FixqOrdersUptoSaid : Prop := fixqOrdersUptoRow.holds Try.pinned (OpenSpec.upto fixqOrdersSpec)

end Rows
end Go.Proofs.Ytklfkopfgiafcaa
