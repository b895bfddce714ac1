/-
  No cell of these rows narrows 'for every input' (looked for: loops, veiled, ifaces, maps, wideKeys, modest, calm, conditions, laid).
  DERIVED. THE GIVEN ROWS OF THIS SEAT. 5 by the template 'for every input the law returns true; each argument reads behind the call as it read before'; 0 by the template 'total and deterministic' (their statements: YtihboegopigkmaaTotals.lean).
  GIVEN WITH THE SEED: the statements are not yours to turn. If you find one false, say at which input.
  Laid BY PROGRAM, IN A SANDBOX (cutbox-rows.mjs): the forced cells as the released guide's own fill.sh prints them over the translation 257d8971ef02cd89… (all of the seat's roots in one cut). By AI agents, Wed Nov 11 2026. No macro, syntax, notation, axiom, sorry.
-/
import Derived.Test.YtihboegopigkmaaChecked
import GoSem.Claim
import GoSem.ClaimJoined
import GoSem.ClaimMapViews
import Derived.JoinedTies
import Derived.KernelRfl
namespace Go.Proofs.Ytihboegopigkmaa
/- THE CELL 'sum', in the pinned program and in every row, IS THE sha256 OF THE DUMP (.gsa) THAT YtihboegopigkmaaProg.lean LOADS. Nothing in Lean hashes anything: it is a label: what it is worth is what the hold of that sum in a sandbox is worth. -/
noncomputable def Try.pinned : Pinned := { name := "ytihboegopigkmaa", sum := "257d8971ef02cd89b8b4baf905c544fff76057293d6eb02f706253f34174f393", checked := Try.checked }
namespace Rows
def none {H : Type} : Left H := { results := [], args := [] }

/-- 'aerielaw19.RetryOnce': WHATEVER THE INPUT: true; the input reads as it did. -/
def retryOnceSpec : ChangeSpec := { name := "retryOnce", fn := fun _ => fun
  | [d1, d2, d3] => { results := [.lit (.bool true)], args := [d1, d2, d3] }
  | _ => none }
def retryOnceRow : OpenClaim := { program := "ytihboegopigkmaa", sum := "257d8971ef02cd89b8b4baf905c544fff76057293d6eb02f706253f34174f393", func := "aerie/aerielaw19.RetryOnce", spec := "retryOnce", unfollowed := true, recurses := true, apart := false }
def RetryOnceSaid : Prop := retryOnceRow.holds Try.pinned (OpenSpec.ofChange retryOnceSpec)

/-- ITS FALSE NEIGHBOUR: 'it returns false'. Refute it at one input. -/
def retryOnceWrong : ChangeSpec := { name := "retryOnce", fn := fun _ => fun
  | [d1, d2, d3] => { results := [.lit (.bool false)], args := [d1, d2, d3] }
  | _ => none }
def RetryOnceWrongFalsely : Prop := retryOnceRow.holds Try.pinned (OpenSpec.ofChange retryOnceWrong)

/-- 'aerielaw19.RetrySpends': WHATEVER THE INPUT: true; the input reads as it did. -/
def retrySpendsSpec : ChangeSpec := { name := "retrySpends", fn := fun _ => fun
  | [d1, d2, d3] => { results := [.lit (.bool true)], args := [d1, d2, d3] }
  | _ => none }
def retrySpendsRow : OpenClaim := { program := "ytihboegopigkmaa", sum := "257d8971ef02cd89b8b4baf905c544fff76057293d6eb02f706253f34174f393", func := "aerie/aerielaw19.RetrySpends", spec := "retrySpends", unfollowed := true, recurses := true, apart := false }
def RetrySpendsSaid : Prop := retrySpendsRow.holds Try.pinned (OpenSpec.ofChange retrySpendsSpec)

/-- ITS FALSE NEIGHBOUR: 'it returns false'. Refute it at one input. -/
def retrySpendsWrong : ChangeSpec := { name := "retrySpends", fn := fun _ => fun
  | [d1, d2, d3] => { results := [.lit (.bool false)], args := [d1, d2, d3] }
  | _ => none }
def RetrySpendsWrongFalsely : Prop := retrySpendsRow.holds Try.pinned (OpenSpec.ofChange retrySpendsWrong)

/-- 'aerielaw19.RetryBounds': WHATEVER THE INPUT: true; the input reads as it did. -/
def retryBoundsSpec : ChangeSpec := { name := "retryBounds", fn := fun _ => fun
  | [d1, d2, d3] => { results := [.lit (.bool true)], args := [d1, d2, d3] }
  | _ => none }
def retryBoundsRow : OpenClaim := { program := "ytihboegopigkmaa", sum := "257d8971ef02cd89b8b4baf905c544fff76057293d6eb02f706253f34174f393", func := "aerie/aerielaw19.RetryBounds", spec := "retryBounds", unfollowed := true, recurses := true, apart := false }
def RetryBoundsSaid : Prop := retryBoundsRow.holds Try.pinned (OpenSpec.ofChange retryBoundsSpec)

/-- ITS FALSE NEIGHBOUR: 'it returns false'. Refute it at one input. -/
def retryBoundsWrong : ChangeSpec := { name := "retryBounds", fn := fun _ => fun
  | [d1, d2, d3] => { results := [.lit (.bool false)], args := [d1, d2, d3] }
  | _ => none }
def RetryBoundsWrongFalsely : Prop := retryBoundsRow.holds Try.pinned (OpenSpec.ofChange retryBoundsWrong)

/-- 'aerielaw14.PlantArgs': WHATEVER THE INPUT: true; the input reads as it did. -/
def plantArgsSpec : ChangeSpec := { name := "plantArgs", fn := fun _ => fun
  | [d1, d2, d3] => { results := [.lit (.bool true)], args := [d1, d2, d3] }
  | _ => none }
def plantArgsRow : OpenClaim := { program := "ytihboegopigkmaa", sum := "257d8971ef02cd89b8b4baf905c544fff76057293d6eb02f706253f34174f393", func := "aerie/aerielaw14.PlantArgs", spec := "plantArgs", unfollowed := true, recurses := true, apart := false }
def PlantArgsSaid : Prop := plantArgsRow.holds Try.pinned (OpenSpec.ofChange plantArgsSpec)

/-- ITS FALSE NEIGHBOUR: 'it returns false'. Refute it at one input. -/
def plantArgsWrong : ChangeSpec := { name := "plantArgs", fn := fun _ => fun
  | [d1, d2, d3] => { results := [.lit (.bool false)], args := [d1, d2, d3] }
  | _ => none }
def PlantArgsWrongFalsely : Prop := plantArgsRow.holds Try.pinned (OpenSpec.ofChange plantArgsWrong)

/-- 'aerielaw14.PlantApart': WHATEVER THE INPUT: true; the input reads as it did. -/
def plantApartSpec : ChangeSpec := { name := "plantApart", fn := fun _ => fun
  | [d1, d2, d3, d4, d5] => { results := [.lit (.bool true)], args := [d1, d2, d3, d4, d5] }
  | _ => none }
def plantApartRow : OpenClaim := { program := "ytihboegopigkmaa", sum := "257d8971ef02cd89b8b4baf905c544fff76057293d6eb02f706253f34174f393", func := "aerie/aerielaw14.PlantApart", spec := "plantApart", unfollowed := true, recurses := true, apart := false }
def PlantApartSaid : Prop := plantApartRow.holds Try.pinned (OpenSpec.ofChange plantApartSpec)

/-- ITS FALSE NEIGHBOUR: 'it returns false'. Refute it at one input. -/
def plantApartWrong : ChangeSpec := { name := "plantApart", fn := fun _ => fun
  | [d1, d2, d3, d4, d5] => { results := [.lit (.bool false)], args := [d1, d2, d3, d4, d5] }
  | _ => none }
def PlantApartWrongFalsely : Prop := plantApartRow.holds Try.pinned (OpenSpec.ofChange plantApartWrong)

/- THE SECOND FORM. 'bulk': how many values and letters a reading holds, each counted each time it is reached (what is shared counts as often as it is met; a slice's spare places count too). A statement '..UptoSaid' is the law's where the arguments, and the package variables that the reading takes, are together of bulk at most 1048576: NARROWER than '..Said'. Prove '..Said' where nothing that the law and all that it calls make is longer than what came in: it says more and counts as full. Else prove '..UptoSaid'. A law counts once. -/
mutual
def uptoBulk {H : Type} : DataW H → Nat
  | .lit (.string bytes) => bytes.length + 1
  | .lit _ => 1
  | .nil => 1
  | .ptr d => uptoBulk d + 1
  | .slice elems spare => uptoBulkAll elems + uptoBulkAll spare + 1
  | .agg parts => uptoBulkAll parts + 1
  | .iface _ d => uptoBulk d + 1
  | .map entries => uptoBulkEntries entries + 1
  | .held _ => 1
def uptoBulkAll {H : Type} : List (DataW H) → Nat
  | [] => 0
  | d :: r => uptoBulk d + uptoBulkAll r
def uptoBulkEntries {H : Type} : List (Lit × DataW H) → Nat
  | [] => 0
  | x :: r => uptoBulkEntry x + uptoBulkEntries r
def uptoBulkEntry {H : Type} : Lit × DataW H → Nat
  | (.string bytes, d) => bytes.length + uptoBulk d + 1
  | (_, d) => uptoBulk d + 1
 end
def uptoSmall : (H : Type) → List (DataW H) → Bool := fun _ ds => decide (uptoBulkAll ds ≤ 1048576)
def OpenSpec.upto (s : _root_.Go.ChangeSpec) : _root_.Go.OpenSpec := { _root_.Go.OpenSpec.ofChange s with cond := some uptoSmall }

/-- 'aerielaw19.RetryOnce', WHERE WHAT IT READS IS OF BULK AT MOST 1048576: true; the input reads as it did. -/
def retryOnceUptoRow : OpenClaim := { program := "ytihboegopigkmaa", sum := "257d8971ef02cd89b8b4baf905c544fff76057293d6eb02f706253f34174f393", func := "aerie/aerielaw19.RetryOnce", spec := "retryOnce", unfollowed := true, recurses := true, apart := false, narrowed := true }
def RetryOnceUptoSaid : Prop := retryOnceUptoRow.holds Try.pinned (OpenSpec.upto retryOnceSpec)

/-- 'aerielaw19.RetrySpends', WHERE WHAT IT READS IS OF BULK AT MOST 1048576: true; the input reads as it did. -/
def retrySpendsUptoRow : OpenClaim := { program := "ytihboegopigkmaa", sum := "257d8971ef02cd89b8b4baf905c544fff76057293d6eb02f706253f34174f393", func := "aerie/aerielaw19.RetrySpends", spec := "retrySpends", unfollowed := true, recurses := true, apart := false, narrowed := true }
def RetrySpendsUptoSaid : Prop := retrySpendsUptoRow.holds Try.pinned (OpenSpec.upto retrySpendsSpec)

/-- 'aerielaw19.RetryBounds', WHERE WHAT IT READS IS OF BULK AT MOST 1048576: true; the input reads as it did. -/
def retryBoundsUptoRow : OpenClaim := { program := "ytihboegopigkmaa", sum := "257d8971ef02cd89b8b4baf905c544fff76057293d6eb02f706253f34174f393", func := "aerie/aerielaw19.RetryBounds", spec := "retryBounds", unfollowed := true, recurses := true, apart := false, narrowed := true }
def RetryBoundsUptoSaid : Prop := retryBoundsUptoRow.holds Try.pinned (OpenSpec.upto retryBoundsSpec)

/-- 'aerielaw14.PlantArgs', WHERE WHAT IT READS IS OF BULK AT MOST 1048576: true; the input reads as it did. -/
def plantArgsUptoRow : OpenClaim := { program := "ytihboegopigkmaa", sum := "257d8971ef02cd89b8b4baf905c544fff76057293d6eb02f706253f34174f393", func := "aerie/aerielaw14.PlantArgs", spec := "plantArgs", unfollowed := true, recurses := true, apart := false, narrowed := true }
def PlantArgsUptoSaid : Prop := plantArgsUptoRow.holds Try.pinned (OpenSpec.upto plantArgsSpec)

/-- 'aerielaw14.PlantApart', WHERE WHAT IT READS IS OF BULK AT MOST 1048576: true; the input reads as it did. -/
def plantApartUptoRow : OpenClaim := { program := "ytihboegopigkmaa", sum := "257d8971ef02cd89b8b4baf905c544fff76057293d6eb02f706253f34174f393", func := "aerie/aerielaw14.PlantApart", spec := "plantApart", unfollowed := true, recurses := true, apart := false, narrowed := true }
def PlantApartUptoSaid : Prop := plantApartUptoRow.holds Try.pinned (OpenSpec.upto plantApartSpec)

end Rows
end Go.Proofs.Ytihboegopigkmaa
