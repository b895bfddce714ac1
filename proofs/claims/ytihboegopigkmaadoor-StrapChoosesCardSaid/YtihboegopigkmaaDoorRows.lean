/-
  NARROWER THAN 'FOR EVERY INPUT', by the rows' own cells (each row's printed sentence says how): TurnHolds: laid · TurnNone: laid · TurnSteps: laid · TurnAgain: laid · TurnEnds: laid · RetryTells: laid · StrapNears: laid · PlantLife: laid · StrapAdmits: laid · StrapChooses: laid · StrapGrows: laid · StrapSearches: laid.
  DERIVED. THE GIVEN ROWS OF THIS SEAT. 12 by the template 'for every input the law returns true; each argument reads behind the call as it read before'; 0 by the template 'total and deterministic' (their statements: YtihboegopigkmaaDoorTotals.lean).
  GIVEN WITH THE SEED: the statements are not yours to turn. If you find one false, say at which input.
  Laid BY PROGRAM, IN A SANDBOX (cutbox-rows.mjs): the forced cells as the released guide's own fill.sh prints them over the translation 88264b635ebd513a… (all of the seat's roots in one cut). By AI agents, Wed Nov 11 2026. No macro, syntax, notation, axiom, sorry.
-/
import Derived.Test.YtihboegopigkmaaDoorChecked
import GoSem.Claim
import GoSem.ClaimJoined
import GoSem.ClaimMapViews
import Derived.JoinedTies
import Derived.KernelRfl
namespace Go.Proofs.YtihboegopigkmaaDoor
/- THE CELL 'sum', in the pinned program and in every row, IS THE sha256 OF THE DUMP (.gsa) THAT YtihboegopigkmaaDoorProg.lean LOADS. Nothing in Lean hashes anything: it is a label: what it is worth is what the hold of that sum in a sandbox is worth. -/
noncomputable def Tryd.pinned : Pinned := { name := "ytihboegopigkmaadoor", sum := "88264b635ebd513a3f5fe35687ba919a51cf73194b56f7bd590086ae01f14d52", checked := Tryd.checked }
namespace Rows
def none {H : Type} : Left H := { results := [], args := [] }

/- WHAT THE LISTED PACKAGE-LEVEL VARIABLES READ AS WHEN THE CALL BEGINS. Each datum BY PROGRAM (the guide's laid-datum.mjs) off the statement by which the dump's own 'gosem.cut.vars' lays the variable. In a bare row this is a premise. The card (YtihboegopigkmaaDoorCards.lean) ties it to the program's text. -/
def laid_math_bits_deBruijn32tab {H : Type} : DataW H := .agg [.lit (.int .u8 0), .lit (.int .u8 1), .lit (.int .u8 28), .lit (.int .u8 2), .lit (.int .u8 29), .lit (.int .u8 14), .lit (.int .u8 24), .lit (.int .u8 3), .lit (.int .u8 30), .lit (.int .u8 22), .lit (.int .u8 20), .lit (.int .u8 15), .lit (.int .u8 25), .lit (.int .u8 17), .lit (.int .u8 4), .lit (.int .u8 8), .lit (.int .u8 31), .lit (.int .u8 27), .lit (.int .u8 13), .lit (.int .u8 23), .lit (.int .u8 21), .lit (.int .u8 19), .lit (.int .u8 16), .lit (.int .u8 7), .lit (.int .u8 26), .lit (.int .u8 12), .lit (.int .u8 18), .lit (.int .u8 6), .lit (.int .u8 11), .lit (.int .u8 5), .lit (.int .u8 10), .lit (.int .u8 9)]

/-- 'aerielaw20.TurnHolds': WHATEVER THE INPUT: true; the input reads as it did. -/
def turnHoldsSpec : ChangeSpec := { name := "turnHolds", fn := fun _ => fun
  | [d1, d2, d3, d4, d5] => { results := [.lit (.bool true)], args := [d1, d2, d3, d4, d5] }
  | _ => none }
def turnHoldsRow : OpenClaim := { program := "ytihboegopigkmaadoor", sum := "88264b635ebd513a3f5fe35687ba919a51cf73194b56f7bd590086ae01f14d52", func := "aerie/aerielaw20.TurnHolds", spec := "turnHolds", unfollowed := true, recurses := true, named := ["math/bits.deBruijn32tab"], plainKeys := false, apart := false, laid := [("math/bits.deBruijn32tab", laid_math_bits_deBruijn32tab)] }
def TurnHoldsSaid : Prop := turnHoldsRow.holds Tryd.pinned (OpenSpec.ofChange turnHoldsSpec)

/-- ITS FALSE NEIGHBOUR: 'it returns false'. Refute it at one input. -/
def turnHoldsWrong : ChangeSpec := { name := "turnHolds", fn := fun _ => fun
  | [d1, d2, d3, d4, d5] => { results := [.lit (.bool false)], args := [d1, d2, d3, d4, d5] }
  | _ => none }
def TurnHoldsWrongFalsely : Prop := turnHoldsRow.holds Tryd.pinned (OpenSpec.ofChange turnHoldsWrong)

/-- 'aerielaw20.TurnNone': WHATEVER THE INPUT: true; the input reads as it did. -/
def turnNoneSpec : ChangeSpec := { name := "turnNone", fn := fun _ => fun
  | [d1, d2] => { results := [.lit (.bool true)], args := [d1, d2] }
  | _ => none }
def turnNoneRow : OpenClaim := { program := "ytihboegopigkmaadoor", sum := "88264b635ebd513a3f5fe35687ba919a51cf73194b56f7bd590086ae01f14d52", func := "aerie/aerielaw20.TurnNone", spec := "turnNone", unfollowed := true, recurses := true, named := ["math/bits.deBruijn32tab"], plainKeys := false, apart := false, laid := [("math/bits.deBruijn32tab", laid_math_bits_deBruijn32tab)] }
def TurnNoneSaid : Prop := turnNoneRow.holds Tryd.pinned (OpenSpec.ofChange turnNoneSpec)

/-- ITS FALSE NEIGHBOUR: 'it returns false'. Refute it at one input. -/
def turnNoneWrong : ChangeSpec := { name := "turnNone", fn := fun _ => fun
  | [d1, d2] => { results := [.lit (.bool false)], args := [d1, d2] }
  | _ => none }
def TurnNoneWrongFalsely : Prop := turnNoneRow.holds Tryd.pinned (OpenSpec.ofChange turnNoneWrong)

/-- 'aerielaw20.TurnSteps': WHATEVER THE INPUT: true; the input reads as it did. -/
def turnStepsSpec : ChangeSpec := { name := "turnSteps", fn := fun _ => fun
  | [d1, d2, d3, d4, d5] => { results := [.lit (.bool true)], args := [d1, d2, d3, d4, d5] }
  | _ => none }
def turnStepsRow : OpenClaim := { program := "ytihboegopigkmaadoor", sum := "88264b635ebd513a3f5fe35687ba919a51cf73194b56f7bd590086ae01f14d52", func := "aerie/aerielaw20.TurnSteps", spec := "turnSteps", unfollowed := true, recurses := true, named := ["math/bits.deBruijn32tab"], plainKeys := false, apart := false, laid := [("math/bits.deBruijn32tab", laid_math_bits_deBruijn32tab)] }
def TurnStepsSaid : Prop := turnStepsRow.holds Tryd.pinned (OpenSpec.ofChange turnStepsSpec)

/-- ITS FALSE NEIGHBOUR: 'it returns false'. Refute it at one input. -/
def turnStepsWrong : ChangeSpec := { name := "turnSteps", fn := fun _ => fun
  | [d1, d2, d3, d4, d5] => { results := [.lit (.bool false)], args := [d1, d2, d3, d4, d5] }
  | _ => none }
def TurnStepsWrongFalsely : Prop := turnStepsRow.holds Tryd.pinned (OpenSpec.ofChange turnStepsWrong)

/-- 'aerielaw20.TurnAgain': WHATEVER THE INPUT: true; the input reads as it did. -/
def turnAgainSpec : ChangeSpec := { name := "turnAgain", fn := fun _ => fun
  | [d1, d2, d3, d4, d5] => { results := [.lit (.bool true)], args := [d1, d2, d3, d4, d5] }
  | _ => none }
def turnAgainRow : OpenClaim := { program := "ytihboegopigkmaadoor", sum := "88264b635ebd513a3f5fe35687ba919a51cf73194b56f7bd590086ae01f14d52", func := "aerie/aerielaw20.TurnAgain", spec := "turnAgain", unfollowed := true, recurses := true, named := ["math/bits.deBruijn32tab"], plainKeys := false, apart := false, laid := [("math/bits.deBruijn32tab", laid_math_bits_deBruijn32tab)] }
def TurnAgainSaid : Prop := turnAgainRow.holds Tryd.pinned (OpenSpec.ofChange turnAgainSpec)

/-- ITS FALSE NEIGHBOUR: 'it returns false'. Refute it at one input. -/
def turnAgainWrong : ChangeSpec := { name := "turnAgain", fn := fun _ => fun
  | [d1, d2, d3, d4, d5] => { results := [.lit (.bool false)], args := [d1, d2, d3, d4, d5] }
  | _ => none }
def TurnAgainWrongFalsely : Prop := turnAgainRow.holds Tryd.pinned (OpenSpec.ofChange turnAgainWrong)

/-- 'aerielaw20.TurnEnds': WHATEVER THE INPUT: true; the input reads as it did. -/
def turnEndsSpec : ChangeSpec := { name := "turnEnds", fn := fun _ => fun
  | [d1, d2, d3, d4] => { results := [.lit (.bool true)], args := [d1, d2, d3, d4] }
  | _ => none }
def turnEndsRow : OpenClaim := { program := "ytihboegopigkmaadoor", sum := "88264b635ebd513a3f5fe35687ba919a51cf73194b56f7bd590086ae01f14d52", func := "aerie/aerielaw20.TurnEnds", spec := "turnEnds", unfollowed := true, recurses := true, named := ["math/bits.deBruijn32tab"], plainKeys := false, apart := false, laid := [("math/bits.deBruijn32tab", laid_math_bits_deBruijn32tab)] }
def TurnEndsSaid : Prop := turnEndsRow.holds Tryd.pinned (OpenSpec.ofChange turnEndsSpec)

/-- ITS FALSE NEIGHBOUR: 'it returns false'. Refute it at one input. -/
def turnEndsWrong : ChangeSpec := { name := "turnEnds", fn := fun _ => fun
  | [d1, d2, d3, d4] => { results := [.lit (.bool false)], args := [d1, d2, d3, d4] }
  | _ => none }
def TurnEndsWrongFalsely : Prop := turnEndsRow.holds Tryd.pinned (OpenSpec.ofChange turnEndsWrong)

/-- 'aerielaw19.RetryTells': WHATEVER THE INPUT: true; the input reads as it did. -/
def retryTellsSpec : ChangeSpec := { name := "retryTells", fn := fun _ => fun
  | [d1, d2, d3] => { results := [.lit (.bool true)], args := [d1, d2, d3] }
  | _ => none }
def retryTellsRow : OpenClaim := { program := "ytihboegopigkmaadoor", sum := "88264b635ebd513a3f5fe35687ba919a51cf73194b56f7bd590086ae01f14d52", func := "aerie/aerielaw19.RetryTells", spec := "retryTells", unfollowed := true, recurses := true, named := ["math/bits.deBruijn32tab"], plainKeys := false, apart := false, laid := [("math/bits.deBruijn32tab", laid_math_bits_deBruijn32tab)] }
def RetryTellsSaid : Prop := retryTellsRow.holds Tryd.pinned (OpenSpec.ofChange retryTellsSpec)

/-- ITS FALSE NEIGHBOUR: 'it returns false'. Refute it at one input. -/
def retryTellsWrong : ChangeSpec := { name := "retryTells", fn := fun _ => fun
  | [d1, d2, d3] => { results := [.lit (.bool false)], args := [d1, d2, d3] }
  | _ => none }
def RetryTellsWrongFalsely : Prop := retryTellsRow.holds Tryd.pinned (OpenSpec.ofChange retryTellsWrong)

/-- 'aerielaw18.StrapNears': WHATEVER THE INPUT: true; the input reads as it did. -/
def strapNearsSpec : ChangeSpec := { name := "strapNears", fn := fun _ => fun
  | [d1, d2, d3, d4, d5] => { results := [.lit (.bool true)], args := [d1, d2, d3, d4, d5] }
  | _ => none }
def strapNearsRow : OpenClaim := { program := "ytihboegopigkmaadoor", sum := "88264b635ebd513a3f5fe35687ba919a51cf73194b56f7bd590086ae01f14d52", func := "aerie/aerielaw18.StrapNears", spec := "strapNears", unfollowed := true, recurses := true, named := ["math/bits.deBruijn32tab"], plainKeys := false, apart := false, laid := [("math/bits.deBruijn32tab", laid_math_bits_deBruijn32tab)] }
def StrapNearsSaid : Prop := strapNearsRow.holds Tryd.pinned (OpenSpec.ofChange strapNearsSpec)

/-- ITS FALSE NEIGHBOUR: 'it returns false'. Refute it at one input. -/
def strapNearsWrong : ChangeSpec := { name := "strapNears", fn := fun _ => fun
  | [d1, d2, d3, d4, d5] => { results := [.lit (.bool false)], args := [d1, d2, d3, d4, d5] }
  | _ => none }
def StrapNearsWrongFalsely : Prop := strapNearsRow.holds Tryd.pinned (OpenSpec.ofChange strapNearsWrong)

/-- 'aerielaw14.PlantLife': WHATEVER THE INPUT: true; the input reads as it did. -/
def plantLifeSpec : ChangeSpec := { name := "plantLife", fn := fun _ => fun
  | [d1, d2, d3] => { results := [.lit (.bool true)], args := [d1, d2, d3] }
  | _ => none }
def plantLifeRow : OpenClaim := { program := "ytihboegopigkmaadoor", sum := "88264b635ebd513a3f5fe35687ba919a51cf73194b56f7bd590086ae01f14d52", func := "aerie/aerielaw14.PlantLife", spec := "plantLife", unfollowed := true, recurses := true, named := ["math/bits.deBruijn32tab"], plainKeys := false, apart := false, laid := [("math/bits.deBruijn32tab", laid_math_bits_deBruijn32tab)] }
def PlantLifeSaid : Prop := plantLifeRow.holds Tryd.pinned (OpenSpec.ofChange plantLifeSpec)

/-- ITS FALSE NEIGHBOUR: 'it returns false'. Refute it at one input. -/
def plantLifeWrong : ChangeSpec := { name := "plantLife", fn := fun _ => fun
  | [d1, d2, d3] => { results := [.lit (.bool false)], args := [d1, d2, d3] }
  | _ => none }
def PlantLifeWrongFalsely : Prop := plantLifeRow.holds Tryd.pinned (OpenSpec.ofChange plantLifeWrong)

/-- 'aerielaw18.StrapAdmits': WHATEVER THE INPUT: true; the input reads as it did. -/
def strapAdmitsSpec : ChangeSpec := { name := "strapAdmits", fn := fun _ => fun
  | [d1, d2, d3, d4, d5] => { results := [.lit (.bool true)], args := [d1, d2, d3, d4, d5] }
  | _ => none }
def strapAdmitsRow : OpenClaim := { program := "ytihboegopigkmaadoor", sum := "88264b635ebd513a3f5fe35687ba919a51cf73194b56f7bd590086ae01f14d52", func := "aerie/aerielaw18.StrapAdmits", spec := "strapAdmits", unfollowed := true, recurses := true, named := ["math/bits.deBruijn32tab"], plainKeys := false, apart := false, laid := [("math/bits.deBruijn32tab", laid_math_bits_deBruijn32tab)] }
def StrapAdmitsSaid : Prop := strapAdmitsRow.holds Tryd.pinned (OpenSpec.ofChange strapAdmitsSpec)

/-- ITS FALSE NEIGHBOUR: 'it returns false'. Refute it at one input. -/
def strapAdmitsWrong : ChangeSpec := { name := "strapAdmits", fn := fun _ => fun
  | [d1, d2, d3, d4, d5] => { results := [.lit (.bool false)], args := [d1, d2, d3, d4, d5] }
  | _ => none }
def StrapAdmitsWrongFalsely : Prop := strapAdmitsRow.holds Tryd.pinned (OpenSpec.ofChange strapAdmitsWrong)

/-- 'aerielaw18.StrapChooses': WHATEVER THE INPUT: true; the input reads as it did. -/
def strapChoosesSpec : ChangeSpec := { name := "strapChooses", fn := fun _ => fun
  | [d1, d2, d3, d4, d5] => { results := [.lit (.bool true)], args := [d1, d2, d3, d4, d5] }
  | _ => none }
def strapChoosesRow : OpenClaim := { program := "ytihboegopigkmaadoor", sum := "88264b635ebd513a3f5fe35687ba919a51cf73194b56f7bd590086ae01f14d52", func := "aerie/aerielaw18.StrapChooses", spec := "strapChooses", unfollowed := true, recurses := true, named := ["math/bits.deBruijn32tab"], plainKeys := false, apart := false, laid := [("math/bits.deBruijn32tab", laid_math_bits_deBruijn32tab)] }
def StrapChoosesSaid : Prop := strapChoosesRow.holds Tryd.pinned (OpenSpec.ofChange strapChoosesSpec)

/-- ITS FALSE NEIGHBOUR: 'it returns false'. Refute it at one input. -/
def strapChoosesWrong : ChangeSpec := { name := "strapChooses", fn := fun _ => fun
  | [d1, d2, d3, d4, d5] => { results := [.lit (.bool false)], args := [d1, d2, d3, d4, d5] }
  | _ => none }
def StrapChoosesWrongFalsely : Prop := strapChoosesRow.holds Tryd.pinned (OpenSpec.ofChange strapChoosesWrong)

/-- 'aerielaw18.StrapGrows': WHATEVER THE INPUT: true; the input reads as it did. -/
def strapGrowsSpec : ChangeSpec := { name := "strapGrows", fn := fun _ => fun
  | [d1, d2, d3, d4] => { results := [.lit (.bool true)], args := [d1, d2, d3, d4] }
  | _ => none }
def strapGrowsRow : OpenClaim := { program := "ytihboegopigkmaadoor", sum := "88264b635ebd513a3f5fe35687ba919a51cf73194b56f7bd590086ae01f14d52", func := "aerie/aerielaw18.StrapGrows", spec := "strapGrows", unfollowed := true, recurses := true, named := ["math/bits.deBruijn32tab"], plainKeys := false, apart := false, laid := [("math/bits.deBruijn32tab", laid_math_bits_deBruijn32tab)] }
def StrapGrowsSaid : Prop := strapGrowsRow.holds Tryd.pinned (OpenSpec.ofChange strapGrowsSpec)

/-- ITS FALSE NEIGHBOUR: 'it returns false'. Refute it at one input. -/
def strapGrowsWrong : ChangeSpec := { name := "strapGrows", fn := fun _ => fun
  | [d1, d2, d3, d4] => { results := [.lit (.bool false)], args := [d1, d2, d3, d4] }
  | _ => none }
def StrapGrowsWrongFalsely : Prop := strapGrowsRow.holds Tryd.pinned (OpenSpec.ofChange strapGrowsWrong)

/-- 'aerielaw18.StrapSearches': WHATEVER THE INPUT: true; the input reads as it did. -/
def strapSearchesSpec : ChangeSpec := { name := "strapSearches", fn := fun _ => fun
  | [d1, d2, d3] => { results := [.lit (.bool true)], args := [d1, d2, d3] }
  | _ => none }
def strapSearchesRow : OpenClaim := { program := "ytihboegopigkmaadoor", sum := "88264b635ebd513a3f5fe35687ba919a51cf73194b56f7bd590086ae01f14d52", func := "aerie/aerielaw18.StrapSearches", spec := "strapSearches", unfollowed := true, recurses := true, named := ["math/bits.deBruijn32tab"], plainKeys := false, apart := false, laid := [("math/bits.deBruijn32tab", laid_math_bits_deBruijn32tab)] }
def StrapSearchesSaid : Prop := strapSearchesRow.holds Tryd.pinned (OpenSpec.ofChange strapSearchesSpec)

/-- ITS FALSE NEIGHBOUR: 'it returns false'. Refute it at one input. -/
def strapSearchesWrong : ChangeSpec := { name := "strapSearches", fn := fun _ => fun
  | [d1, d2, d3] => { results := [.lit (.bool false)], args := [d1, d2, d3] }
  | _ => none }
def StrapSearchesWrongFalsely : Prop := strapSearchesRow.holds Tryd.pinned (OpenSpec.ofChange strapSearchesWrong)

/- THE SECOND FORM. 'bulk': how many values and letters a reading holds, each counted each time it is reached (what is shared counts as often as it is met; a slice's spare places count too). A statement '..UptoSaid' is the law's where the arguments, and the package variables that the reading takes, are together of bulk at most 1048576: NARROWER than '..Said'. Prove '..Said' where nothing that the law and all that it calls make is longer than what came in: it says more and counts as full. Else prove '..UptoSaid'. A law counts once. -/
mutual
def uptoBulk {H : Type} : DataW H → Nat
  | .lit (.string bytes) => bytes.length + 1
  | .lit _ => 1
  | .nil => 1
  | .ptr d => uptoBulk d + 1
  | .slice elems spare => uptoBulkAll elems + uptoBulkAll spare + 1
  | .agg parts => uptoBulkAll parts + 1
  | .iface _ d => uptoBulk d + 1
  | .map entries => uptoBulkEntries entries + 1
  | .held _ => 1
def uptoBulkAll {H : Type} : List (DataW H) → Nat
  | [] => 0
  | d :: r => uptoBulk d + uptoBulkAll r
def uptoBulkEntries {H : Type} : List (Lit × DataW H) → Nat
  | [] => 0
  | x :: r => uptoBulkEntry x + uptoBulkEntries r
def uptoBulkEntry {H : Type} : Lit × DataW H → Nat
  | (.string bytes, d) => bytes.length + uptoBulk d + 1
  | (_, d) => uptoBulk d + 1
 end
def uptoSmall : (H : Type) → List (DataW H) → Bool := fun _ ds => decide (uptoBulkAll ds ≤ 1048576)
def OpenSpec.upto (s : _root_.Go.ChangeSpec) : _root_.Go.OpenSpec := { _root_.Go.OpenSpec.ofChange s with cond := some uptoSmall }

/-- 'aerielaw20.TurnHolds', WHERE WHAT IT READS IS OF BULK AT MOST 1048576: true; the input reads as it did. -/
def turnHoldsUptoRow : OpenClaim := { program := "ytihboegopigkmaadoor", sum := "88264b635ebd513a3f5fe35687ba919a51cf73194b56f7bd590086ae01f14d52", func := "aerie/aerielaw20.TurnHolds", spec := "turnHolds", unfollowed := true, recurses := true, named := ["math/bits.deBruijn32tab"], plainKeys := false, apart := false, laid := [("math/bits.deBruijn32tab", laid_math_bits_deBruijn32tab)], narrowed := true }
def TurnHoldsUptoSaid : Prop := turnHoldsUptoRow.holds Tryd.pinned (OpenSpec.upto turnHoldsSpec)

/-- 'aerielaw20.TurnNone', WHERE WHAT IT READS IS OF BULK AT MOST 1048576: true; the input reads as it did. -/
def turnNoneUptoRow : OpenClaim := { program := "ytihboegopigkmaadoor", sum := "88264b635ebd513a3f5fe35687ba919a51cf73194b56f7bd590086ae01f14d52", func := "aerie/aerielaw20.TurnNone", spec := "turnNone", unfollowed := true, recurses := true, named := ["math/bits.deBruijn32tab"], plainKeys := false, apart := false, laid := [("math/bits.deBruijn32tab", laid_math_bits_deBruijn32tab)], narrowed := true }
def TurnNoneUptoSaid : Prop := turnNoneUptoRow.holds Tryd.pinned (OpenSpec.upto turnNoneSpec)

/-- 'aerielaw20.TurnSteps', WHERE WHAT IT READS IS OF BULK AT MOST 1048576: true; the input reads as it did. -/
def turnStepsUptoRow : OpenClaim := { program := "ytihboegopigkmaadoor", sum := "88264b635ebd513a3f5fe35687ba919a51cf73194b56f7bd590086ae01f14d52", func := "aerie/aerielaw20.TurnSteps", spec := "turnSteps", unfollowed := true, recurses := true, named := ["math/bits.deBruijn32tab"], plainKeys := false, apart := false, laid := [("math/bits.deBruijn32tab", laid_math_bits_deBruijn32tab)], narrowed := true }
def TurnStepsUptoSaid : Prop := turnStepsUptoRow.holds Tryd.pinned (OpenSpec.upto turnStepsSpec)

/-- 'aerielaw20.TurnAgain', WHERE WHAT IT READS IS OF BULK AT MOST 1048576: true; the input reads as it did. -/
def turnAgainUptoRow : OpenClaim := { program := "ytihboegopigkmaadoor", sum := "88264b635ebd513a3f5fe35687ba919a51cf73194b56f7bd590086ae01f14d52", func := "aerie/aerielaw20.TurnAgain", spec := "turnAgain", unfollowed := true, recurses := true, named := ["math/bits.deBruijn32tab"], plainKeys := false, apart := false, laid := [("math/bits.deBruijn32tab", laid_math_bits_deBruijn32tab)], narrowed := true }
def TurnAgainUptoSaid : Prop := turnAgainUptoRow.holds Tryd.pinned (OpenSpec.upto turnAgainSpec)

/-- 'aerielaw20.TurnEnds', WHERE WHAT IT READS IS OF BULK AT MOST 1048576: true; the input reads as it did. -/
def turnEndsUptoRow : OpenClaim := { program := "ytihboegopigkmaadoor", sum := "88264b635ebd513a3f5fe35687ba919a51cf73194b56f7bd590086ae01f14d52", func := "aerie/aerielaw20.TurnEnds", spec := "turnEnds", unfollowed := true, recurses := true, named := ["math/bits.deBruijn32tab"], plainKeys := false, apart := false, laid := [("math/bits.deBruijn32tab", laid_math_bits_deBruijn32tab)], narrowed := true }
def TurnEndsUptoSaid : Prop := turnEndsUptoRow.holds Tryd.pinned (OpenSpec.upto turnEndsSpec)

/-- 'aerielaw19.RetryTells', WHERE WHAT IT READS IS OF BULK AT MOST 1048576: true; the input reads as it did. -/
def retryTellsUptoRow : OpenClaim := { program := "ytihboegopigkmaadoor", sum := "88264b635ebd513a3f5fe35687ba919a51cf73194b56f7bd590086ae01f14d52", func := "aerie/aerielaw19.RetryTells", spec := "retryTells", unfollowed := true, recurses := true, named := ["math/bits.deBruijn32tab"], plainKeys := false, apart := false, laid := [("math/bits.deBruijn32tab", laid_math_bits_deBruijn32tab)], narrowed := true }
def RetryTellsUptoSaid : Prop := retryTellsUptoRow.holds Tryd.pinned (OpenSpec.upto retryTellsSpec)

/-- 'aerielaw18.StrapNears', WHERE WHAT IT READS IS OF BULK AT MOST 1048576: true; the input reads as it did. -/
def strapNearsUptoRow : OpenClaim := { program := "ytihboegopigkmaadoor", sum := "88264b635ebd513a3f5fe35687ba919a51cf73194b56f7bd590086ae01f14d52", func := "aerie/aerielaw18.StrapNears", spec := "strapNears", unfollowed := true, recurses := true, named := ["math/bits.deBruijn32tab"], plainKeys := false, apart := false, laid := [("math/bits.deBruijn32tab", laid_math_bits_deBruijn32tab)], narrowed := true }
def StrapNearsUptoSaid : Prop := strapNearsUptoRow.holds Tryd.pinned (OpenSpec.upto strapNearsSpec)

/-- 'aerielaw14.PlantLife', WHERE WHAT IT READS IS OF BULK AT MOST 1048576: true; the input reads as it did. -/
def plantLifeUptoRow : OpenClaim := { program := "ytihboegopigkmaadoor", sum := "88264b635ebd513a3f5fe35687ba919a51cf73194b56f7bd590086ae01f14d52", func := "aerie/aerielaw14.PlantLife", spec := "plantLife", unfollowed := true, recurses := true, named := ["math/bits.deBruijn32tab"], plainKeys := false, apart := false, laid := [("math/bits.deBruijn32tab", laid_math_bits_deBruijn32tab)], narrowed := true }
def PlantLifeUptoSaid : Prop := plantLifeUptoRow.holds Tryd.pinned (OpenSpec.upto plantLifeSpec)

/-- 'aerielaw18.StrapAdmits', WHERE WHAT IT READS IS OF BULK AT MOST 1048576: true; the input reads as it did. -/
def strapAdmitsUptoRow : OpenClaim := { program := "ytihboegopigkmaadoor", sum := "88264b635ebd513a3f5fe35687ba919a51cf73194b56f7bd590086ae01f14d52", func := "aerie/aerielaw18.StrapAdmits", spec := "strapAdmits", unfollowed := true, recurses := true, named := ["math/bits.deBruijn32tab"], plainKeys := false, apart := false, laid := [("math/bits.deBruijn32tab", laid_math_bits_deBruijn32tab)], narrowed := true }
def StrapAdmitsUptoSaid : Prop := strapAdmitsUptoRow.holds Tryd.pinned (OpenSpec.upto strapAdmitsSpec)

/-- 'aerielaw18.StrapChooses', WHERE WHAT IT READS IS OF BULK AT MOST 1048576: true; the input reads as it did. -/
def strapChoosesUptoRow : OpenClaim := { program := "ytihboegopigkmaadoor", sum := "88264b635ebd513a3f5fe35687ba919a51cf73194b56f7bd590086ae01f14d52", func := "aerie/aerielaw18.StrapChooses", spec := "strapChooses", unfollowed := true, recurses := true, named := ["math/bits.deBruijn32tab"], plainKeys := false, apart := false, laid := [("math/bits.deBruijn32tab", laid_math_bits_deBruijn32tab)], narrowed := true }
def StrapChoosesUptoSaid : Prop := strapChoosesUptoRow.holds Tryd.pinned (OpenSpec.upto strapChoosesSpec)

/-- 'aerielaw18.StrapGrows', WHERE WHAT IT READS IS OF BULK AT MOST 1048576: true; the input reads as it did. -/
def strapGrowsUptoRow : OpenClaim := { program := "ytihboegopigkmaadoor", sum := "88264b635ebd513a3f5fe35687ba919a51cf73194b56f7bd590086ae01f14d52", func := "aerie/aerielaw18.StrapGrows", spec := "strapGrows", unfollowed := true, recurses := true, named := ["math/bits.deBruijn32tab"], plainKeys := false, apart := false, laid := [("math/bits.deBruijn32tab", laid_math_bits_deBruijn32tab)], narrowed := true }
def StrapGrowsUptoSaid : Prop := strapGrowsUptoRow.holds Tryd.pinned (OpenSpec.upto strapGrowsSpec)

/-- 'aerielaw18.StrapSearches', WHERE WHAT IT READS IS OF BULK AT MOST 1048576: true; the input reads as it did. -/
def strapSearchesUptoRow : OpenClaim := { program := "ytihboegopigkmaadoor", sum := "88264b635ebd513a3f5fe35687ba919a51cf73194b56f7bd590086ae01f14d52", func := "aerie/aerielaw18.StrapSearches", spec := "strapSearches", unfollowed := true, recurses := true, named := ["math/bits.deBruijn32tab"], plainKeys := false, apart := false, laid := [("math/bits.deBruijn32tab", laid_math_bits_deBruijn32tab)], narrowed := true }
def StrapSearchesUptoSaid : Prop := strapSearchesUptoRow.holds Tryd.pinned (OpenSpec.upto strapSearchesSpec)

end Rows
end Go.Proofs.YtihboegopigkmaaDoor
