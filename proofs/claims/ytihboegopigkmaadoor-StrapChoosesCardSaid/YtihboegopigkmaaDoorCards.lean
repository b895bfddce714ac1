/-
  DERIVED. GIVEN WITH THE SEED: THE CARDS: each row of YtihboegopigkmaaDoorRows.lean that lists a variable, with what it lists TIED to the program's text (the seventh form; the later family's looks); each row that meets fmt, with fmt's text TOLD by the authors' own Lean function (tested against real Go, not proved from fmt's source: count such statements apart). THE CARD IS WHAT COUNTS. Prove the row's statement (the work); the ties are given (YtihboegopigkmaaDoorTie.lean); close each card by the builder's one call (the guide's Derived/Test/ToyasCard.lean, 'card_holds'). Laid BY PROGRAM, IN A SANDBOX (cutbox-door.mjs). By AI agents, Wed Nov 11 2026. No macro, syntax, notation, axiom, sorry.
-/
import Derived.Test.YtihboegopigkmaaDoorRows
import GoSem.ClaimSeven
namespace Go.Proofs.YtihboegopigkmaaDoor
namespace Rows

/-- THE TIED CARD OF 'aerielaw20.TurnHolds'. -/
def turnHoldsCard : Claim7 := { stood := { row := turnHoldsRow, standIns := [], harness := (true, "be84678a92d564aa498fb515bf20f6eda5bf04876d6a87913d56926587e5c0e2"), looks := false }, kinds := [], alts := [], laidByText := true, laidKinds := [.data], laidTests := true, laidLooks := .later }
def TurnHoldsCardSaid : Prop := Claim7.holds Tryd.pinned (.plain (OpenSpec.ofChange turnHoldsSpec)) turnHoldsCard

/-- THE TIED CARD OF 'aerielaw20.TurnNone'. -/
def turnNoneCard : Claim7 := { stood := { row := turnNoneRow, standIns := [], harness := (true, "be84678a92d564aa498fb515bf20f6eda5bf04876d6a87913d56926587e5c0e2"), looks := false }, kinds := [], alts := [], laidByText := true, laidKinds := [.data], laidTests := true, laidLooks := .later }
def TurnNoneCardSaid : Prop := Claim7.holds Tryd.pinned (.plain (OpenSpec.ofChange turnNoneSpec)) turnNoneCard

/-- THE TIED CARD OF 'aerielaw20.TurnSteps'. -/
def turnStepsCard : Claim7 := { stood := { row := turnStepsRow, standIns := [], harness := (true, "be84678a92d564aa498fb515bf20f6eda5bf04876d6a87913d56926587e5c0e2"), looks := false }, kinds := [], alts := [], laidByText := true, laidKinds := [.data], laidTests := true, laidLooks := .later }
def TurnStepsCardSaid : Prop := Claim7.holds Tryd.pinned (.plain (OpenSpec.ofChange turnStepsSpec)) turnStepsCard

/-- THE TIED CARD OF 'aerielaw20.TurnAgain'. -/
def turnAgainCard : Claim7 := { stood := { row := turnAgainRow, standIns := [], harness := (true, "be84678a92d564aa498fb515bf20f6eda5bf04876d6a87913d56926587e5c0e2"), looks := false }, kinds := [], alts := [], laidByText := true, laidKinds := [.data], laidTests := true, laidLooks := .later }
def TurnAgainCardSaid : Prop := Claim7.holds Tryd.pinned (.plain (OpenSpec.ofChange turnAgainSpec)) turnAgainCard

/-- THE TIED CARD OF 'aerielaw20.TurnEnds'. -/
def turnEndsCard : Claim7 := { stood := { row := turnEndsRow, standIns := [], harness := (true, "be84678a92d564aa498fb515bf20f6eda5bf04876d6a87913d56926587e5c0e2"), looks := false }, kinds := [], alts := [], laidByText := true, laidKinds := [.data], laidTests := true, laidLooks := .later }
def TurnEndsCardSaid : Prop := Claim7.holds Tryd.pinned (.plain (OpenSpec.ofChange turnEndsSpec)) turnEndsCard

/-- THE TIED CARD OF 'aerielaw19.RetryTells'. -/
def retryTellsCard : Claim7 := { stood := { row := retryTellsRow, standIns := [], harness := (true, "be84678a92d564aa498fb515bf20f6eda5bf04876d6a87913d56926587e5c0e2"), looks := false }, kinds := [], alts := [], laidByText := true, laidKinds := [.data], laidTests := true, laidLooks := .later }
def RetryTellsCardSaid : Prop := Claim7.holds Tryd.pinned (.plain (OpenSpec.ofChange retryTellsSpec)) retryTellsCard

/-- THE TIED CARD OF 'aerielaw18.StrapNears'. -/
def strapNearsCard : Claim7 := { stood := { row := strapNearsRow, standIns := [], harness := (true, "be84678a92d564aa498fb515bf20f6eda5bf04876d6a87913d56926587e5c0e2"), looks := false }, kinds := [], alts := [], laidByText := true, laidKinds := [.data], laidTests := true, laidLooks := .later }
def StrapNearsCardSaid : Prop := Claim7.holds Tryd.pinned (.plain (OpenSpec.ofChange strapNearsSpec)) strapNearsCard

/-- THE TIED CARD OF 'aerielaw14.PlantLife'. -/
def plantLifeCard : Claim7 := { stood := { row := plantLifeRow, standIns := [], harness := (true, "be84678a92d564aa498fb515bf20f6eda5bf04876d6a87913d56926587e5c0e2"), looks := false }, kinds := [], alts := [], laidByText := true, laidKinds := [.data], laidTests := true, laidLooks := .later }
def PlantLifeCardSaid : Prop := Claim7.holds Tryd.pinned (.plain (OpenSpec.ofChange plantLifeSpec)) plantLifeCard

/-- THE TIED CARD OF 'aerielaw18.StrapAdmits'. -/
def strapAdmitsCard : Claim7 := { stood := { row := strapAdmitsRow, standIns := [], harness := (true, "be84678a92d564aa498fb515bf20f6eda5bf04876d6a87913d56926587e5c0e2"), looks := false }, kinds := [], alts := [], laidByText := true, laidKinds := [.data], laidTests := true, laidLooks := .later }
def StrapAdmitsCardSaid : Prop := Claim7.holds Tryd.pinned (.plain (OpenSpec.ofChange strapAdmitsSpec)) strapAdmitsCard

/-- THE TIED CARD OF 'aerielaw18.StrapChooses'. -/
def strapChoosesCard : Claim7 := { stood := { row := strapChoosesRow, standIns := [], harness := (true, "be84678a92d564aa498fb515bf20f6eda5bf04876d6a87913d56926587e5c0e2"), looks := false }, kinds := [], alts := [], laidByText := true, laidKinds := [.data], laidTests := true, laidLooks := .later }
def StrapChoosesCardSaid : Prop := Claim7.holds Tryd.pinned (.plain (OpenSpec.ofChange strapChoosesSpec)) strapChoosesCard

/-- THE TIED CARD OF 'aerielaw18.StrapGrows'. -/
def strapGrowsCard : Claim7 := { stood := { row := strapGrowsRow, standIns := [], harness := (true, "be84678a92d564aa498fb515bf20f6eda5bf04876d6a87913d56926587e5c0e2"), looks := false }, kinds := [], alts := [], laidByText := true, laidKinds := [.data], laidTests := true, laidLooks := .later }
def StrapGrowsCardSaid : Prop := Claim7.holds Tryd.pinned (.plain (OpenSpec.ofChange strapGrowsSpec)) strapGrowsCard

/-- THE TIED CARD OF 'aerielaw18.StrapSearches'. -/
def strapSearchesCard : Claim7 := { stood := { row := strapSearchesRow, standIns := [], harness := (true, "be84678a92d564aa498fb515bf20f6eda5bf04876d6a87913d56926587e5c0e2"), looks := false }, kinds := [], alts := [], laidByText := true, laidKinds := [.data], laidTests := true, laidLooks := .later }
def StrapSearchesCardSaid : Prop := Claim7.holds Tryd.pinned (.plain (OpenSpec.ofChange strapSearchesSpec)) strapSearchesCard

/-- THE SECOND FORM's CARD OF 'aerielaw20.TurnHolds'. -/
def turnHoldsUptoCard : Claim7 := { stood := { row := turnHoldsUptoRow, standIns := [], harness := (true, "be84678a92d564aa498fb515bf20f6eda5bf04876d6a87913d56926587e5c0e2"), looks := false }, kinds := [], alts := [], laidByText := true, laidKinds := [.data], laidTests := true, laidLooks := .later }
def TurnHoldsUptoCardSaid : Prop := Claim7.holds Tryd.pinned (.plain (OpenSpec.upto turnHoldsSpec)) turnHoldsUptoCard

/-- THE SECOND FORM's CARD OF 'aerielaw20.TurnNone'. -/
def turnNoneUptoCard : Claim7 := { stood := { row := turnNoneUptoRow, standIns := [], harness := (true, "be84678a92d564aa498fb515bf20f6eda5bf04876d6a87913d56926587e5c0e2"), looks := false }, kinds := [], alts := [], laidByText := true, laidKinds := [.data], laidTests := true, laidLooks := .later }
def TurnNoneUptoCardSaid : Prop := Claim7.holds Tryd.pinned (.plain (OpenSpec.upto turnNoneSpec)) turnNoneUptoCard

/-- THE SECOND FORM's CARD OF 'aerielaw20.TurnSteps'. -/
def turnStepsUptoCard : Claim7 := { stood := { row := turnStepsUptoRow, standIns := [], harness := (true, "be84678a92d564aa498fb515bf20f6eda5bf04876d6a87913d56926587e5c0e2"), looks := false }, kinds := [], alts := [], laidByText := true, laidKinds := [.data], laidTests := true, laidLooks := .later }
def TurnStepsUptoCardSaid : Prop := Claim7.holds Tryd.pinned (.plain (OpenSpec.upto turnStepsSpec)) turnStepsUptoCard

/-- THE SECOND FORM's CARD OF 'aerielaw20.TurnAgain'. -/
def turnAgainUptoCard : Claim7 := { stood := { row := turnAgainUptoRow, standIns := [], harness := (true, "be84678a92d564aa498fb515bf20f6eda5bf04876d6a87913d56926587e5c0e2"), looks := false }, kinds := [], alts := [], laidByText := true, laidKinds := [.data], laidTests := true, laidLooks := .later }
def TurnAgainUptoCardSaid : Prop := Claim7.holds Tryd.pinned (.plain (OpenSpec.upto turnAgainSpec)) turnAgainUptoCard

/-- THE SECOND FORM's CARD OF 'aerielaw20.TurnEnds'. -/
def turnEndsUptoCard : Claim7 := { stood := { row := turnEndsUptoRow, standIns := [], harness := (true, "be84678a92d564aa498fb515bf20f6eda5bf04876d6a87913d56926587e5c0e2"), looks := false }, kinds := [], alts := [], laidByText := true, laidKinds := [.data], laidTests := true, laidLooks := .later }
def TurnEndsUptoCardSaid : Prop := Claim7.holds Tryd.pinned (.plain (OpenSpec.upto turnEndsSpec)) turnEndsUptoCard

/-- THE SECOND FORM's CARD OF 'aerielaw19.RetryTells'. -/
def retryTellsUptoCard : Claim7 := { stood := { row := retryTellsUptoRow, standIns := [], harness := (true, "be84678a92d564aa498fb515bf20f6eda5bf04876d6a87913d56926587e5c0e2"), looks := false }, kinds := [], alts := [], laidByText := true, laidKinds := [.data], laidTests := true, laidLooks := .later }
def RetryTellsUptoCardSaid : Prop := Claim7.holds Tryd.pinned (.plain (OpenSpec.upto retryTellsSpec)) retryTellsUptoCard

/-- THE SECOND FORM's CARD OF 'aerielaw18.StrapNears'. -/
def strapNearsUptoCard : Claim7 := { stood := { row := strapNearsUptoRow, standIns := [], harness := (true, "be84678a92d564aa498fb515bf20f6eda5bf04876d6a87913d56926587e5c0e2"), looks := false }, kinds := [], alts := [], laidByText := true, laidKinds := [.data], laidTests := true, laidLooks := .later }
def StrapNearsUptoCardSaid : Prop := Claim7.holds Tryd.pinned (.plain (OpenSpec.upto strapNearsSpec)) strapNearsUptoCard

/-- THE SECOND FORM's CARD OF 'aerielaw14.PlantLife'. -/
def plantLifeUptoCard : Claim7 := { stood := { row := plantLifeUptoRow, standIns := [], harness := (true, "be84678a92d564aa498fb515bf20f6eda5bf04876d6a87913d56926587e5c0e2"), looks := false }, kinds := [], alts := [], laidByText := true, laidKinds := [.data], laidTests := true, laidLooks := .later }
def PlantLifeUptoCardSaid : Prop := Claim7.holds Tryd.pinned (.plain (OpenSpec.upto plantLifeSpec)) plantLifeUptoCard

/-- THE SECOND FORM's CARD OF 'aerielaw18.StrapAdmits'. -/
def strapAdmitsUptoCard : Claim7 := { stood := { row := strapAdmitsUptoRow, standIns := [], harness := (true, "be84678a92d564aa498fb515bf20f6eda5bf04876d6a87913d56926587e5c0e2"), looks := false }, kinds := [], alts := [], laidByText := true, laidKinds := [.data], laidTests := true, laidLooks := .later }
def StrapAdmitsUptoCardSaid : Prop := Claim7.holds Tryd.pinned (.plain (OpenSpec.upto strapAdmitsSpec)) strapAdmitsUptoCard

/-- THE SECOND FORM's CARD OF 'aerielaw18.StrapChooses'. -/
def strapChoosesUptoCard : Claim7 := { stood := { row := strapChoosesUptoRow, standIns := [], harness := (true, "be84678a92d564aa498fb515bf20f6eda5bf04876d6a87913d56926587e5c0e2"), looks := false }, kinds := [], alts := [], laidByText := true, laidKinds := [.data], laidTests := true, laidLooks := .later }
def StrapChoosesUptoCardSaid : Prop := Claim7.holds Tryd.pinned (.plain (OpenSpec.upto strapChoosesSpec)) strapChoosesUptoCard

/-- THE SECOND FORM's CARD OF 'aerielaw18.StrapGrows'. -/
def strapGrowsUptoCard : Claim7 := { stood := { row := strapGrowsUptoRow, standIns := [], harness := (true, "be84678a92d564aa498fb515bf20f6eda5bf04876d6a87913d56926587e5c0e2"), looks := false }, kinds := [], alts := [], laidByText := true, laidKinds := [.data], laidTests := true, laidLooks := .later }
def StrapGrowsUptoCardSaid : Prop := Claim7.holds Tryd.pinned (.plain (OpenSpec.upto strapGrowsSpec)) strapGrowsUptoCard

/-- THE SECOND FORM's CARD OF 'aerielaw18.StrapSearches'. -/
def strapSearchesUptoCard : Claim7 := { stood := { row := strapSearchesUptoRow, standIns := [], harness := (true, "be84678a92d564aa498fb515bf20f6eda5bf04876d6a87913d56926587e5c0e2"), looks := false }, kinds := [], alts := [], laidByText := true, laidKinds := [.data], laidTests := true, laidLooks := .later }
def StrapSearchesUptoCardSaid : Prop := Claim7.holds Tryd.pinned (.plain (OpenSpec.upto strapSearchesSpec)) strapSearchesUptoCard
end Rows
end Go.Proofs.YtihboegopigkmaaDoor
