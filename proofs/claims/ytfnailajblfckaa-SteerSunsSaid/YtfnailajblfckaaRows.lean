/-
  No cell of these rows narrows 'for every input' (looked for: loops, veiled, ifaces, maps, wideKeys, modest, calm, conditions, laid).
  DERIVED. THE GIVEN ROWS OF THIS SEAT. 7 by the template 'for every input the law returns true; each argument reads behind the call as it read before'; 0 by the template 'total and deterministic' (their statements: YtfnailajblfckaaTotals.lean).
  GIVEN WITH THE SEED: the statements are not yours to turn. If you find one false, say at which input.
  Laid BY PROGRAM, IN A SANDBOX (cutbox-rows.mjs): the forced cells as the released guide's own fill.sh prints them over the translation db4bab7f28daf77d… (all of the seat's roots in one cut). By AI agents, Wed Nov 11 2026. No macro, syntax, notation, axiom, sorry.
-/
import Derived.Test.YtfnailajblfckaaChecked
import GoSem.Claim
import GoSem.ClaimJoined
import GoSem.ClaimMapViews
import Derived.JoinedTies
import Derived.KernelRfl
namespace Go.Proofs.Ytfnailajblfckaa
/- THE CELL 'sum', in the pinned program and in every row, IS THE sha256 OF THE DUMP (.gsa) THAT YtfnailajblfckaaProg.lean LOADS. Nothing in Lean hashes anything: it is a label: what it is worth is what the hold of that sum in a sandbox is worth. -/
noncomputable def Try.pinned : Pinned := { name := "ytfnailajblfckaa", sum := "db4bab7f28daf77dabc45cb37763b005f0410f71de8c489a5ca252ea3944c635", checked := Try.checked }
namespace Rows
def none {H : Type} : Left H := { results := [], args := [] }

/-- 'aerielaw23.SteerDamps': WHATEVER THE INPUT: true; the input reads as it did. -/
def steerDampsSpec : ChangeSpec := { name := "steerDamps", fn := fun _ => fun
  | [d1, d2, d3, d4, d5] => { results := [.lit (.bool true)], args := [d1, d2, d3, d4, d5] }
  | _ => none }
def steerDampsRow : OpenClaim := { program := "ytfnailajblfckaa", sum := "db4bab7f28daf77dabc45cb37763b005f0410f71de8c489a5ca252ea3944c635", func := "aerie/aerielaw23.SteerDamps", spec := "steerDamps", unfollowed := true, recurses := true, apart := false }
def SteerDampsSaid : Prop := steerDampsRow.holds Try.pinned (OpenSpec.ofChange steerDampsSpec)

/-- ITS FALSE NEIGHBOUR: 'it returns false'. Refute it at one input. -/
def steerDampsWrong : ChangeSpec := { name := "steerDamps", fn := fun _ => fun
  | [d1, d2, d3, d4, d5] => { results := [.lit (.bool false)], args := [d1, d2, d3, d4, d5] }
  | _ => none }
def SteerDampsWrongFalsely : Prop := steerDampsRow.holds Try.pinned (OpenSpec.ofChange steerDampsWrong)

/-- 'aerielaw02.VecSizes': WHATEVER THE INPUT: true; the input reads as it did. -/
def vecSizesSpec : ChangeSpec := { name := "vecSizes", fn := fun _ => fun
  | [d] => { results := [.lit (.bool true)], args := [d] }
  | _ => none }
def vecSizesRow : OpenClaim := { program := "ytfnailajblfckaa", sum := "db4bab7f28daf77dabc45cb37763b005f0410f71de8c489a5ca252ea3944c635", func := "aerie/aerielaw02.VecSizes", spec := "vecSizes", apart := false }
def VecSizesSaid : Prop := vecSizesRow.holds Try.pinned (OpenSpec.ofChange vecSizesSpec)

/-- ITS FALSE NEIGHBOUR: 'it returns false'. Refute it at one input. -/
def vecSizesWrong : ChangeSpec := { name := "vecSizes", fn := fun _ => fun
  | [d] => { results := [.lit (.bool false)], args := [d] }
  | _ => none }
def VecSizesWrongFalsely : Prop := vecSizesRow.holds Try.pinned (OpenSpec.ofChange vecSizesWrong)

/-- 'aerielaw02.VecProducts': WHATEVER THE INPUT: true; the input reads as it did. -/
def vecProductsSpec : ChangeSpec := { name := "vecProducts", fn := fun _ => fun
  | [d1, d2, d3] => { results := [.lit (.bool true)], args := [d1, d2, d3] }
  | _ => none }
def vecProductsRow : OpenClaim := { program := "ytfnailajblfckaa", sum := "db4bab7f28daf77dabc45cb37763b005f0410f71de8c489a5ca252ea3944c635", func := "aerie/aerielaw02.VecProducts", spec := "vecProducts", unfollowed := true, recurses := true, apart := false }
def VecProductsSaid : Prop := vecProductsRow.holds Try.pinned (OpenSpec.ofChange vecProductsSpec)

/-- ITS FALSE NEIGHBOUR: 'it returns false'. Refute it at one input. -/
def vecProductsWrong : ChangeSpec := { name := "vecProducts", fn := fun _ => fun
  | [d1, d2, d3] => { results := [.lit (.bool false)], args := [d1, d2, d3] }
  | _ => none }
def VecProductsWrongFalsely : Prop := vecProductsRow.holds Try.pinned (OpenSpec.ofChange vecProductsWrong)

/-- 'aerielaw23.SteerSuns': WHATEVER THE INPUT: true; the input reads as it did. -/
def steerSunsSpec : ChangeSpec := { name := "steerSuns", fn := fun _ => fun
  | [d1, d2, d3, d4, d5, d6, d7] => { results := [.lit (.bool true)], args := [d1, d2, d3, d4, d5, d6, d7] }
  | _ => none }
def steerSunsRow : OpenClaim := { program := "ytfnailajblfckaa", sum := "db4bab7f28daf77dabc45cb37763b005f0410f71de8c489a5ca252ea3944c635", func := "aerie/aerielaw23.SteerSuns", spec := "steerSuns", unfollowed := true, recurses := true, apart := false }
def SteerSunsSaid : Prop := steerSunsRow.holds Try.pinned (OpenSpec.ofChange steerSunsSpec)

/-- ITS FALSE NEIGHBOUR: 'it returns false'. Refute it at one input. -/
def steerSunsWrong : ChangeSpec := { name := "steerSuns", fn := fun _ => fun
  | [d1, d2, d3, d4, d5, d6, d7] => { results := [.lit (.bool false)], args := [d1, d2, d3, d4, d5, d6, d7] }
  | _ => none }
def SteerSunsWrongFalsely : Prop := steerSunsRow.holds Try.pinned (OpenSpec.ofChange steerSunsWrong)

/-- 'aerielaw02.VecClamps': WHATEVER THE INPUT: true; the input reads as it did. -/
def vecClampsSpec : ChangeSpec := { name := "vecClamps", fn := fun _ => fun
  | [d1, d2, d3] => { results := [.lit (.bool true)], args := [d1, d2, d3] }
  | _ => none }
def vecClampsRow : OpenClaim := { program := "ytfnailajblfckaa", sum := "db4bab7f28daf77dabc45cb37763b005f0410f71de8c489a5ca252ea3944c635", func := "aerie/aerielaw02.VecClamps", spec := "vecClamps", unfollowed := true, recurses := true, apart := false }
def VecClampsSaid : Prop := vecClampsRow.holds Try.pinned (OpenSpec.ofChange vecClampsSpec)

/-- ITS FALSE NEIGHBOUR: 'it returns false'. Refute it at one input. -/
def vecClampsWrong : ChangeSpec := { name := "vecClamps", fn := fun _ => fun
  | [d1, d2, d3] => { results := [.lit (.bool false)], args := [d1, d2, d3] }
  | _ => none }
def VecClampsWrongFalsely : Prop := vecClampsRow.holds Try.pinned (OpenSpec.ofChange vecClampsWrong)

/-- 'aerielaw02.VecLines': WHATEVER THE INPUT: true; the input reads as it did. -/
def vecLinesSpec : ChangeSpec := { name := "vecLines", fn := fun _ => fun
  | [d1, d2, d3] => { results := [.lit (.bool true)], args := [d1, d2, d3] }
  | _ => none }
def vecLinesRow : OpenClaim := { program := "ytfnailajblfckaa", sum := "db4bab7f28daf77dabc45cb37763b005f0410f71de8c489a5ca252ea3944c635", func := "aerie/aerielaw02.VecLines", spec := "vecLines", unfollowed := true, recurses := true, apart := false }
def VecLinesSaid : Prop := vecLinesRow.holds Try.pinned (OpenSpec.ofChange vecLinesSpec)

/-- ITS FALSE NEIGHBOUR: 'it returns false'. Refute it at one input. -/
def vecLinesWrong : ChangeSpec := { name := "vecLines", fn := fun _ => fun
  | [d1, d2, d3] => { results := [.lit (.bool false)], args := [d1, d2, d3] }
  | _ => none }
def VecLinesWrongFalsely : Prop := vecLinesRow.holds Try.pinned (OpenSpec.ofChange vecLinesWrong)

/-- 'aerielaw02.VecParts': WHATEVER THE INPUT: true; the input reads as it did. -/
def vecPartsSpec : ChangeSpec := { name := "vecParts", fn := fun _ => fun
  | [d1, d2, d3, d4, d5] => { results := [.lit (.bool true)], args := [d1, d2, d3, d4, d5] }
  | _ => none }
def vecPartsRow : OpenClaim := { program := "ytfnailajblfckaa", sum := "db4bab7f28daf77dabc45cb37763b005f0410f71de8c489a5ca252ea3944c635", func := "aerie/aerielaw02.VecParts", spec := "vecParts", unfollowed := true, recurses := true, apart := false }
def VecPartsSaid : Prop := vecPartsRow.holds Try.pinned (OpenSpec.ofChange vecPartsSpec)

/-- ITS FALSE NEIGHBOUR: 'it returns false'. Refute it at one input. -/
def vecPartsWrong : ChangeSpec := { name := "vecParts", fn := fun _ => fun
  | [d1, d2, d3, d4, d5] => { results := [.lit (.bool false)], args := [d1, d2, d3, d4, d5] }
  | _ => none }
def VecPartsWrongFalsely : Prop := vecPartsRow.holds Try.pinned (OpenSpec.ofChange vecPartsWrong)

/- THE SECOND FORM. 'bulk': how many values and letters a reading holds, each counted each time it is reached (what is shared counts as often as it is met; a slice's spare places count too). A statement '..UptoSaid' is the law's where the arguments, and the package variables that the reading takes, are together of bulk at most 1048576: NARROWER than '..Said'. Prove '..Said' where nothing that the law and all that it calls make is longer than what came in: it says more and counts as full. Else prove '..UptoSaid'. A law counts once. -/
mutual
def uptoBulk {H : Type} : DataW H → Nat
  | .lit (.string bytes) => bytes.length + 1
  | .lit _ => 1
  | .nil => 1
  | .ptr d => uptoBulk d + 1
  | .slice elems spare => uptoBulkAll elems + uptoBulkAll spare + 1
  | .agg parts => uptoBulkAll parts + 1
  | .iface _ d => uptoBulk d + 1
  | .map entries => uptoBulkEntries entries + 1
  | .held _ => 1
def uptoBulkAll {H : Type} : List (DataW H) → Nat
  | [] => 0
  | d :: r => uptoBulk d + uptoBulkAll r
def uptoBulkEntries {H : Type} : List (Lit × DataW H) → Nat
  | [] => 0
  | x :: r => uptoBulkEntry x + uptoBulkEntries r
def uptoBulkEntry {H : Type} : Lit × DataW H → Nat
  | (.string bytes, d) => bytes.length + uptoBulk d + 1
  | (_, d) => uptoBulk d + 1
 end
def uptoSmall : (H : Type) → List (DataW H) → Bool := fun _ ds => decide (uptoBulkAll ds ≤ 1048576)
def OpenSpec.upto (s : _root_.Go.ChangeSpec) : _root_.Go.OpenSpec := { _root_.Go.OpenSpec.ofChange s with cond := some uptoSmall }

/-- 'aerielaw23.SteerDamps', WHERE WHAT IT READS IS OF BULK AT MOST 1048576: true; the input reads as it did. -/
def steerDampsUptoRow : OpenClaim := { program := "ytfnailajblfckaa", sum := "db4bab7f28daf77dabc45cb37763b005f0410f71de8c489a5ca252ea3944c635", func := "aerie/aerielaw23.SteerDamps", spec := "steerDamps", unfollowed := true, recurses := true, apart := false, narrowed := true }
def SteerDampsUptoSaid : Prop := steerDampsUptoRow.holds Try.pinned (OpenSpec.upto steerDampsSpec)

/-- 'aerielaw02.VecSizes', WHERE WHAT IT READS IS OF BULK AT MOST 1048576: true; the input reads as it did. -/
def vecSizesUptoRow : OpenClaim := { program := "ytfnailajblfckaa", sum := "db4bab7f28daf77dabc45cb37763b005f0410f71de8c489a5ca252ea3944c635", func := "aerie/aerielaw02.VecSizes", spec := "vecSizes", apart := false, narrowed := true }
def VecSizesUptoSaid : Prop := vecSizesUptoRow.holds Try.pinned (OpenSpec.upto vecSizesSpec)

/-- 'aerielaw02.VecProducts', WHERE WHAT IT READS IS OF BULK AT MOST 1048576: true; the input reads as it did. -/
def vecProductsUptoRow : OpenClaim := { program := "ytfnailajblfckaa", sum := "db4bab7f28daf77dabc45cb37763b005f0410f71de8c489a5ca252ea3944c635", func := "aerie/aerielaw02.VecProducts", spec := "vecProducts", unfollowed := true, recurses := true, apart := false, narrowed := true }
def VecProductsUptoSaid : Prop := vecProductsUptoRow.holds Try.pinned (OpenSpec.upto vecProductsSpec)

/-- 'aerielaw23.SteerSuns', WHERE WHAT IT READS IS OF BULK AT MOST 1048576: true; the input reads as it did. -/
def steerSunsUptoRow : OpenClaim := { program := "ytfnailajblfckaa", sum := "db4bab7f28daf77dabc45cb37763b005f0410f71de8c489a5ca252ea3944c635", func := "aerie/aerielaw23.SteerSuns", spec := "steerSuns", unfollowed := true, recurses := true, apart := false, narrowed := true }
def SteerSunsUptoSaid : Prop := steerSunsUptoRow.holds Try.pinned (OpenSpec.upto steerSunsSpec)

/-- 'aerielaw02.VecClamps', WHERE WHAT IT READS IS OF BULK AT MOST 1048576: true; the input reads as it did. -/
def vecClampsUptoRow : OpenClaim := { program := "ytfnailajblfckaa", sum := "db4bab7f28daf77dabc45cb37763b005f0410f71de8c489a5ca252ea3944c635", func := "aerie/aerielaw02.VecClamps", spec := "vecClamps", unfollowed := true, recurses := true, apart := false, narrowed := true }
def VecClampsUptoSaid : Prop := vecClampsUptoRow.holds Try.pinned (OpenSpec.upto vecClampsSpec)

/-- 'aerielaw02.VecLines', WHERE WHAT IT READS IS OF BULK AT MOST 1048576: true; the input reads as it did. -/
def vecLinesUptoRow : OpenClaim := { program := "ytfnailajblfckaa", sum := "db4bab7f28daf77dabc45cb37763b005f0410f71de8c489a5ca252ea3944c635", func := "aerie/aerielaw02.VecLines", spec := "vecLines", unfollowed := true, recurses := true, apart := false, narrowed := true }
def VecLinesUptoSaid : Prop := vecLinesUptoRow.holds Try.pinned (OpenSpec.upto vecLinesSpec)

/-- 'aerielaw02.VecParts', WHERE WHAT IT READS IS OF BULK AT MOST 1048576: true; the input reads as it did. -/
def vecPartsUptoRow : OpenClaim := { program := "ytfnailajblfckaa", sum := "db4bab7f28daf77dabc45cb37763b005f0410f71de8c489a5ca252ea3944c635", func := "aerie/aerielaw02.VecParts", spec := "vecParts", unfollowed := true, recurses := true, apart := false, narrowed := true }
def VecPartsUptoSaid : Prop := vecPartsUptoRow.holds Try.pinned (OpenSpec.upto vecPartsSpec)

end Rows
end Go.Proofs.Ytfnailajblfckaa
