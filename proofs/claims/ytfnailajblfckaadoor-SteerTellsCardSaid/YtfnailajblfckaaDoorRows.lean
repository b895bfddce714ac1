/-
  NARROWER THAN 'FOR EVERY INPUT', by the rows' own cells (each row's printed sentence says how): SteerTurns: laid · SteerShares: laid · SteerTells: laid.
  DERIVED. THE GIVEN ROWS OF THIS SEAT. 3 by the template 'for every input the law returns true; each argument reads behind the call as it read before'; 0 by the template 'total and deterministic' (their statements: YtfnailajblfckaaDoorTotals.lean).
  GIVEN WITH THE SEED: the statements are not yours to turn. If you find one false, say at which input.
  Laid BY PROGRAM, IN A SANDBOX (cutbox-rows.mjs): the forced cells as the released guide's own fill.sh prints them over the translation da181224a39f82a1… (all of the seat's roots in one cut). By AI agents, Wed Nov 11 2026. No macro, syntax, notation, axiom, sorry.
-/
import Derived.Test.YtfnailajblfckaaDoorChecked
import GoSem.Claim
import GoSem.ClaimJoined
import GoSem.ClaimMapViews
import Derived.JoinedTies
import Derived.KernelRfl
namespace Go.Proofs.YtfnailajblfckaaDoor
/- THE CELL 'sum', in the pinned program and in every row, IS THE sha256 OF THE DUMP (.gsa) THAT YtfnailajblfckaaDoorProg.lean LOADS. Nothing in Lean hashes anything: it is a label: what it is worth is what the hold of that sum in a sandbox is worth. -/
noncomputable def Tryd.pinned : Pinned := { name := "ytfnailajblfckaadoor", sum := "da181224a39f82a11e33b7720202df228f4b00668dca644e2e73806ab978bccc", checked := Tryd.checked }
namespace Rows
def none {H : Type} : Left H := { results := [], args := [] }

/- WHAT THE LISTED PACKAGE-LEVEL VARIABLES READ AS WHEN THE CALL BEGINS. Each datum BY PROGRAM (the guide's laid-datum.mjs) off the statement by which the dump's own 'gosem.cut.vars' lays the variable. In a bare row this is a premise. The card (YtfnailajblfckaaDoorCards.lean) ties it to the program's text. -/
def laid_aerie_steer_axes {H : Type} : DataW H := .agg [.agg [.lit (.int .i32 1), .lit (.int .i32 1), .lit (.int .i32 1)], .agg [.lit (.int .i32 1), .lit (.int .i32 (-1)), .lit (.int .i32 (-1))], .agg [.lit (.int .i32 (-1)), .lit (.int .i32 1), .lit (.int .i32 (-1))], .agg [.lit (.int .i32 (-1)), .lit (.int .i32 (-1)), .lit (.int .i32 1)]]

/-- 'aerielaw23.SteerTurns': WHATEVER THE INPUT: true; the input reads as it did. -/
def steerTurnsSpec : ChangeSpec := { name := "steerTurns", fn := fun _ => fun
  | [d1, d2, d3, d4] => { results := [.lit (.bool true)], args := [d1, d2, d3, d4] }
  | _ => none }
def steerTurnsRow : OpenClaim := { program := "ytfnailajblfckaadoor", sum := "da181224a39f82a11e33b7720202df228f4b00668dca644e2e73806ab978bccc", func := "aerie/aerielaw23.SteerTurns", spec := "steerTurns", unfollowed := true, recurses := true, named := ["aerie/steer.axes"], apart := false, laid := [("aerie/steer.axes", laid_aerie_steer_axes)] }
def SteerTurnsSaid : Prop := steerTurnsRow.holds Tryd.pinned (OpenSpec.ofChange steerTurnsSpec)

/-- ITS FALSE NEIGHBOUR: 'it returns false'. Refute it at one input. -/
def steerTurnsWrong : ChangeSpec := { name := "steerTurns", fn := fun _ => fun
  | [d1, d2, d3, d4] => { results := [.lit (.bool false)], args := [d1, d2, d3, d4] }
  | _ => none }
def SteerTurnsWrongFalsely : Prop := steerTurnsRow.holds Tryd.pinned (OpenSpec.ofChange steerTurnsWrong)

/-- 'aerielaw23.SteerShares': WHATEVER THE INPUT: true; the input reads as it did. -/
def steerSharesSpec : ChangeSpec := { name := "steerShares", fn := fun _ => fun
  | [d1, d2, d3] => { results := [.lit (.bool true)], args := [d1, d2, d3] }
  | _ => none }
def steerSharesRow : OpenClaim := { program := "ytfnailajblfckaadoor", sum := "da181224a39f82a11e33b7720202df228f4b00668dca644e2e73806ab978bccc", func := "aerie/aerielaw23.SteerShares", spec := "steerShares", unfollowed := true, recurses := true, named := ["aerie/steer.axes"], apart := false, laid := [("aerie/steer.axes", laid_aerie_steer_axes)] }
def SteerSharesSaid : Prop := steerSharesRow.holds Tryd.pinned (OpenSpec.ofChange steerSharesSpec)

/-- ITS FALSE NEIGHBOUR: 'it returns false'. Refute it at one input. -/
def steerSharesWrong : ChangeSpec := { name := "steerShares", fn := fun _ => fun
  | [d1, d2, d3] => { results := [.lit (.bool false)], args := [d1, d2, d3] }
  | _ => none }
def SteerSharesWrongFalsely : Prop := steerSharesRow.holds Tryd.pinned (OpenSpec.ofChange steerSharesWrong)

/-- 'aerielaw23.SteerTells': WHATEVER THE INPUT: true; the input reads as it did. -/
def steerTellsSpec : ChangeSpec := { name := "steerTells", fn := fun _ => fun
  | [d1, d2, d3, d4, d5] => { results := [.lit (.bool true)], args := [d1, d2, d3, d4, d5] }
  | _ => none }
def steerTellsRow : OpenClaim := { program := "ytfnailajblfckaadoor", sum := "da181224a39f82a11e33b7720202df228f4b00668dca644e2e73806ab978bccc", func := "aerie/aerielaw23.SteerTells", spec := "steerTells", unfollowed := true, recurses := true, named := ["aerie/steer.axes"], apart := false, laid := [("aerie/steer.axes", laid_aerie_steer_axes)] }
def SteerTellsSaid : Prop := steerTellsRow.holds Tryd.pinned (OpenSpec.ofChange steerTellsSpec)

/-- ITS FALSE NEIGHBOUR: 'it returns false'. Refute it at one input. -/
def steerTellsWrong : ChangeSpec := { name := "steerTells", fn := fun _ => fun
  | [d1, d2, d3, d4, d5] => { results := [.lit (.bool false)], args := [d1, d2, d3, d4, d5] }
  | _ => none }
def SteerTellsWrongFalsely : Prop := steerTellsRow.holds Tryd.pinned (OpenSpec.ofChange steerTellsWrong)

/- THE SECOND FORM. 'bulk': how many values and letters a reading holds, each counted each time it is reached (what is shared counts as often as it is met; a slice's spare places count too). A statement '..UptoSaid' is the law's where the arguments, and the package variables that the reading takes, are together of bulk at most 1048576: NARROWER than '..Said'. Prove '..Said' where nothing that the law and all that it calls make is longer than what came in: it says more and counts as full. Else prove '..UptoSaid'. A law counts once. -/
mutual
def uptoBulk {H : Type} : DataW H → Nat
  | .lit (.string bytes) => bytes.length + 1
  | .lit _ => 1
  | .nil => 1
  | .ptr d => uptoBulk d + 1
  | .slice elems spare => uptoBulkAll elems + uptoBulkAll spare + 1
  | .agg parts => uptoBulkAll parts + 1
  | .iface _ d => uptoBulk d + 1
  | .map entries => uptoBulkEntries entries + 1
  | .held _ => 1
def uptoBulkAll {H : Type} : List (DataW H) → Nat
  | [] => 0
  | d :: r => uptoBulk d + uptoBulkAll r
def uptoBulkEntries {H : Type} : List (Lit × DataW H) → Nat
  | [] => 0
  | x :: r => uptoBulkEntry x + uptoBulkEntries r
def uptoBulkEntry {H : Type} : Lit × DataW H → Nat
  | (.string bytes, d) => bytes.length + uptoBulk d + 1
  | (_, d) => uptoBulk d + 1
 end
def uptoSmall : (H : Type) → List (DataW H) → Bool := fun _ ds => decide (uptoBulkAll ds ≤ 1048576)
def OpenSpec.upto (s : _root_.Go.ChangeSpec) : _root_.Go.OpenSpec := { _root_.Go.OpenSpec.ofChange s with cond := some uptoSmall }

/-- 'aerielaw23.SteerTurns', WHERE WHAT IT READS IS OF BULK AT MOST 1048576: true; the input reads as it did. -/
def steerTurnsUptoRow : OpenClaim := { program := "ytfnailajblfckaadoor", sum := "da181224a39f82a11e33b7720202df228f4b00668dca644e2e73806ab978bccc", func := "aerie/aerielaw23.SteerTurns", spec := "steerTurns", unfollowed := true, recurses := true, named := ["aerie/steer.axes"], apart := false, laid := [("aerie/steer.axes", laid_aerie_steer_axes)], narrowed := true }
def SteerTurnsUptoSaid : Prop := steerTurnsUptoRow.holds Tryd.pinned (OpenSpec.upto steerTurnsSpec)

/-- 'aerielaw23.SteerShares', WHERE WHAT IT READS IS OF BULK AT MOST 1048576: true; the input reads as it did. -/
def steerSharesUptoRow : OpenClaim := { program := "ytfnailajblfckaadoor", sum := "da181224a39f82a11e33b7720202df228f4b00668dca644e2e73806ab978bccc", func := "aerie/aerielaw23.SteerShares", spec := "steerShares", unfollowed := true, recurses := true, named := ["aerie/steer.axes"], apart := false, laid := [("aerie/steer.axes", laid_aerie_steer_axes)], narrowed := true }
def SteerSharesUptoSaid : Prop := steerSharesUptoRow.holds Tryd.pinned (OpenSpec.upto steerSharesSpec)

/-- 'aerielaw23.SteerTells', WHERE WHAT IT READS IS OF BULK AT MOST 1048576: true; the input reads as it did. -/
def steerTellsUptoRow : OpenClaim := { program := "ytfnailajblfckaadoor", sum := "da181224a39f82a11e33b7720202df228f4b00668dca644e2e73806ab978bccc", func := "aerie/aerielaw23.SteerTells", spec := "steerTells", unfollowed := true, recurses := true, named := ["aerie/steer.axes"], apart := false, laid := [("aerie/steer.axes", laid_aerie_steer_axes)], narrowed := true }
def SteerTellsUptoSaid : Prop := steerTellsUptoRow.holds Tryd.pinned (OpenSpec.upto steerTellsSpec)

end Rows
end Go.Proofs.YtfnailajblfckaaDoor
