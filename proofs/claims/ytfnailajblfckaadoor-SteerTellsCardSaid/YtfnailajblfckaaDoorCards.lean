/-
  DERIVED. GIVEN WITH THE SEED: THE CARDS: each row of YtfnailajblfckaaDoorRows.lean that lists a variable, with what it lists TIED to the program's text (the seventh form; the later family's looks); each row that meets fmt, with fmt's text TOLD by the authors' own Lean function (tested against real Go, not proved from fmt's source: count such statements apart). THE CARD IS WHAT COUNTS. Prove the row's statement (the work); the ties are given (YtfnailajblfckaaDoorTie.lean); close each card by the builder's one call (the guide's Derived/Test/ToyasCard.lean, 'card_holds'). Laid BY PROGRAM, IN A SANDBOX (cutbox-door.mjs). By AI agents, Wed Nov 11 2026. No macro, syntax, notation, axiom, sorry.
-/
import Derived.Test.YtfnailajblfckaaDoorRows
import GoSem.ClaimSeven
namespace Go.Proofs.YtfnailajblfckaaDoor
namespace Rows

/-- THE TIED CARD OF 'aerielaw23.SteerTurns'. -/
def steerTurnsCard : Claim7 := { stood := { row := steerTurnsRow, standIns := [], harness := (true, "5c1f0ce06ce58574293f28800be5892a85fa61c9d1966ffd0920d8ccc4a66d2c"), looks := false }, kinds := [], alts := [], laidByText := true, laidKinds := [.data], laidTests := true, laidLooks := .later }
def SteerTurnsCardSaid : Prop := Claim7.holds Tryd.pinned (.plain (OpenSpec.ofChange steerTurnsSpec)) steerTurnsCard

/-- THE TIED CARD OF 'aerielaw23.SteerShares'. -/
def steerSharesCard : Claim7 := { stood := { row := steerSharesRow, standIns := [], harness := (true, "5c1f0ce06ce58574293f28800be5892a85fa61c9d1966ffd0920d8ccc4a66d2c"), looks := false }, kinds := [], alts := [], laidByText := true, laidKinds := [.data], laidTests := true, laidLooks := .later }
def SteerSharesCardSaid : Prop := Claim7.holds Tryd.pinned (.plain (OpenSpec.ofChange steerSharesSpec)) steerSharesCard

/-- THE TIED CARD OF 'aerielaw23.SteerTells'. -/
def steerTellsCard : Claim7 := { stood := { row := steerTellsRow, standIns := [], harness := (true, "5c1f0ce06ce58574293f28800be5892a85fa61c9d1966ffd0920d8ccc4a66d2c"), looks := false }, kinds := [], alts := [], laidByText := true, laidKinds := [.data], laidTests := true, laidLooks := .later }
def SteerTellsCardSaid : Prop := Claim7.holds Tryd.pinned (.plain (OpenSpec.ofChange steerTellsSpec)) steerTellsCard

/-- THE SECOND FORM's CARD OF 'aerielaw23.SteerTurns'. -/
def steerTurnsUptoCard : Claim7 := { stood := { row := steerTurnsUptoRow, standIns := [], harness := (true, "5c1f0ce06ce58574293f28800be5892a85fa61c9d1966ffd0920d8ccc4a66d2c"), looks := false }, kinds := [], alts := [], laidByText := true, laidKinds := [.data], laidTests := true, laidLooks := .later }
def SteerTurnsUptoCardSaid : Prop := Claim7.holds Tryd.pinned (.plain (OpenSpec.upto steerTurnsSpec)) steerTurnsUptoCard

/-- THE SECOND FORM's CARD OF 'aerielaw23.SteerShares'. -/
def steerSharesUptoCard : Claim7 := { stood := { row := steerSharesUptoRow, standIns := [], harness := (true, "5c1f0ce06ce58574293f28800be5892a85fa61c9d1966ffd0920d8ccc4a66d2c"), looks := false }, kinds := [], alts := [], laidByText := true, laidKinds := [.data], laidTests := true, laidLooks := .later }
def SteerSharesUptoCardSaid : Prop := Claim7.holds Tryd.pinned (.plain (OpenSpec.upto steerSharesSpec)) steerSharesUptoCard

/-- THE SECOND FORM's CARD OF 'aerielaw23.SteerTells'. -/
def steerTellsUptoCard : Claim7 := { stood := { row := steerTellsUptoRow, standIns := [], harness := (true, "5c1f0ce06ce58574293f28800be5892a85fa61c9d1966ffd0920d8ccc4a66d2c"), looks := false }, kinds := [], alts := [], laidByText := true, laidKinds := [.data], laidTests := true, laidLooks := .later }
def SteerTellsUptoCardSaid : Prop := Claim7.holds Tryd.pinned (.plain (OpenSpec.upto steerTellsSpec)) steerTellsUptoCard
end Rows
end Go.Proofs.YtfnailajblfckaaDoor
