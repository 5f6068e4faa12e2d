/-
  DERIVED. GIVEN WITH THE SEED: THE CARDS: each row of YtpdljglamjanmaaDoorRows.lean that lists a variable, with what it lists TIED to the program's text (the seventh form; the later family's looks); each row that meets fmt, with fmt's text TOLD by the authors' own Lean function (tested against real Go, not proved from fmt's source: count such statements apart). THE CARD IS WHAT COUNTS. Prove the row's statement (the work); the ties are given (YtpdljglamjanmaaDoorTie.lean); close each card by the builder's one call (the guide's Derived/Test/ToyasCard.lean, 'card_holds'). Laid BY PROGRAM, IN A SANDBOX (cutbox-door.mjs). By AI agents, Wed Nov 11 2026. No macro, syntax, notation, axiom, sorry.
-/
import Derived.Test.YtpdljglamjanmaaDoorRows
import GoSem.ClaimSeven
namespace Go.Proofs.YtpdljglamjanmaaDoor
namespace Rows

/-- THE TIED CARD OF 'tarpaulinlaw2.FaultWraps'. -/
def faultWrapsCard : Claim7 := { stood := { row := faultWrapsRow, standIns := [], harness := (true, "87b936b3407ec05a912a830ebb492adf0f3001ee538bb6fe53a5bed8e1cf6544"), looks := true }, kinds := [], alts := [], laidByText := true, laidKinds := [.handle], laidTests := true, laidLooks := .later }
def FaultWrapsCardSaid : Prop := Claim7.holds Tryd.pinned (.plain (OpenSpec.ofChange faultWrapsSpec)) faultWrapsCard

/-- THE TIED CARD OF 'tarpaulinlaw2.FaultDeep'. -/
def faultDeepCard : Claim7 := { stood := { row := faultDeepRow, standIns := [], harness := (true, "87b936b3407ec05a912a830ebb492adf0f3001ee538bb6fe53a5bed8e1cf6544"), looks := true }, kinds := [], alts := [], laidByText := true, laidKinds := [.handle], laidTests := true, laidLooks := .later }
def FaultDeepCardSaid : Prop := Claim7.holds Tryd.pinned (.plain (OpenSpec.ofChange faultDeepSpec)) faultDeepCard

/-- THE TIED CARD OF 'tarpaulinlaw2.FaultTexts'. -/
def faultTextsCard : Claim7 := { stood := { row := faultTextsRow, standIns := [], harness := (true, "87b936b3407ec05a912a830ebb492adf0f3001ee538bb6fe53a5bed8e1cf6544"), looks := true }, kinds := [], alts := [], laidByText := true, laidKinds := [.data, .data, .data, .handle], laidTests := true, laidLooks := .later }
def FaultTextsCardSaid : Prop := Claim7.holds Tryd.pinned (.plain (OpenSpec.ofChange faultTextsSpec)) faultTextsCard

/-- THE TIED CARD OF 'tarpaulinlaw2.FaultStrange'. -/
def faultStrangeCard : Claim7 := { stood := { row := faultStrangeRow, standIns := [], harness := (true, "87b936b3407ec05a912a830ebb492adf0f3001ee538bb6fe53a5bed8e1cf6544"), looks := true }, kinds := [], alts := [], laidByText := true, laidKinds := [.handle], laidTests := true, laidLooks := .later }
def FaultStrangeCardSaid : Prop := Claim7.holds Tryd.pinned (.plain (OpenSpec.ofChange faultStrangeSpec)) faultStrangeCard

/-- THE TIED CARD OF 'tarpaulinlaw16.WhyTells'. -/
def whyTellsCard : Claim7 := { stood := { row := whyTellsRow, standIns := [], harness := (true, "87b936b3407ec05a912a830ebb492adf0f3001ee538bb6fe53a5bed8e1cf6544"), looks := true }, kinds := [], alts := [], laidByText := true, laidKinds := [.handle], laidTests := true, laidLooks := .later }
def WhyTellsCardSaid : Prop := Claim7.holds Tryd.pinned (.plain (OpenSpec.ofChange whyTellsSpec)) whyTellsCard

/-- THE TIED CARD OF 'tarpaulinlaw16.WhyIs'. -/
def whyIsCard : Claim7 := { stood := { row := whyIsRow, standIns := [], harness := (true, "87b936b3407ec05a912a830ebb492adf0f3001ee538bb6fe53a5bed8e1cf6544"), looks := true }, kinds := [], alts := [], laidByText := true, laidKinds := [.handle], laidTests := true, laidLooks := .later }
def WhyIsCardSaid : Prop := Claim7.holds Tryd.pinned (.plain (OpenSpec.ofChange whyIsSpec)) whyIsCard

/-- THE TIED CARD OF 'tarpaulinlaw16.WhyWraps'. -/
def whyWrapsCard : Claim7 := { stood := { row := whyWrapsRow, standIns := [], harness := (true, "87b936b3407ec05a912a830ebb492adf0f3001ee538bb6fe53a5bed8e1cf6544"), looks := true }, kinds := [], alts := [], laidByText := true, laidKinds := [.handle], laidTests := true, laidLooks := .later }
def WhyWrapsCardSaid : Prop := Claim7.holds Tryd.pinned (.plain (OpenSpec.ofChange whyWrapsSpec)) whyWrapsCard

/-- THE TIED CARD OF 'tarpaulinlaw16.WhyDeep'. -/
def whyDeepCard : Claim7 := { stood := { row := whyDeepRow, standIns := [], harness := (true, "87b936b3407ec05a912a830ebb492adf0f3001ee538bb6fe53a5bed8e1cf6544"), looks := true }, kinds := [], alts := [], laidByText := true, laidKinds := [.handle], laidTests := true, laidLooks := .later }
def WhyDeepCardSaid : Prop := Claim7.holds Tryd.pinned (.plain (OpenSpec.ofChange whyDeepSpec)) whyDeepCard

/-- THE SECOND FORM's CARD OF 'tarpaulinlaw2.FaultWraps'. -/
def faultWrapsUptoCard : Claim7 := { stood := { row := faultWrapsUptoRow, standIns := [], harness := (true, "87b936b3407ec05a912a830ebb492adf0f3001ee538bb6fe53a5bed8e1cf6544"), looks := true }, kinds := [], alts := [], laidByText := true, laidKinds := [.handle], laidTests := true, laidLooks := .later }
def FaultWrapsUptoCardSaid : Prop := Claim7.holds Tryd.pinned (.plain (OpenSpec.upto faultWrapsSpec)) faultWrapsUptoCard

/-- THE SECOND FORM's CARD OF 'tarpaulinlaw2.FaultDeep'. -/
def faultDeepUptoCard : Claim7 := { stood := { row := faultDeepUptoRow, standIns := [], harness := (true, "87b936b3407ec05a912a830ebb492adf0f3001ee538bb6fe53a5bed8e1cf6544"), looks := true }, kinds := [], alts := [], laidByText := true, laidKinds := [.handle], laidTests := true, laidLooks := .later }
def FaultDeepUptoCardSaid : Prop := Claim7.holds Tryd.pinned (.plain (OpenSpec.upto faultDeepSpec)) faultDeepUptoCard

/-- THE SECOND FORM's CARD OF 'tarpaulinlaw2.FaultTexts'. -/
def faultTextsUptoCard : Claim7 := { stood := { row := faultTextsUptoRow, standIns := [], harness := (true, "87b936b3407ec05a912a830ebb492adf0f3001ee538bb6fe53a5bed8e1cf6544"), looks := true }, kinds := [], alts := [], laidByText := true, laidKinds := [.data, .data, .data, .handle], laidTests := true, laidLooks := .later }
def FaultTextsUptoCardSaid : Prop := Claim7.holds Tryd.pinned (.plain (OpenSpec.upto faultTextsSpec)) faultTextsUptoCard

/-- THE SECOND FORM's CARD OF 'tarpaulinlaw2.FaultStrange'. -/
def faultStrangeUptoCard : Claim7 := { stood := { row := faultStrangeUptoRow, standIns := [], harness := (true, "87b936b3407ec05a912a830ebb492adf0f3001ee538bb6fe53a5bed8e1cf6544"), looks := true }, kinds := [], alts := [], laidByText := true, laidKinds := [.handle], laidTests := true, laidLooks := .later }
def FaultStrangeUptoCardSaid : Prop := Claim7.holds Tryd.pinned (.plain (OpenSpec.upto faultStrangeSpec)) faultStrangeUptoCard

/-- THE SECOND FORM's CARD OF 'tarpaulinlaw16.WhyTells'. -/
def whyTellsUptoCard : Claim7 := { stood := { row := whyTellsUptoRow, standIns := [], harness := (true, "87b936b3407ec05a912a830ebb492adf0f3001ee538bb6fe53a5bed8e1cf6544"), looks := true }, kinds := [], alts := [], laidByText := true, laidKinds := [.handle], laidTests := true, laidLooks := .later }
def WhyTellsUptoCardSaid : Prop := Claim7.holds Tryd.pinned (.plain (OpenSpec.upto whyTellsSpec)) whyTellsUptoCard

/-- THE SECOND FORM's CARD OF 'tarpaulinlaw16.WhyIs'. -/
def whyIsUptoCard : Claim7 := { stood := { row := whyIsUptoRow, standIns := [], harness := (true, "87b936b3407ec05a912a830ebb492adf0f3001ee538bb6fe53a5bed8e1cf6544"), looks := true }, kinds := [], alts := [], laidByText := true, laidKinds := [.handle], laidTests := true, laidLooks := .later }
def WhyIsUptoCardSaid : Prop := Claim7.holds Tryd.pinned (.plain (OpenSpec.upto whyIsSpec)) whyIsUptoCard

/-- THE SECOND FORM's CARD OF 'tarpaulinlaw16.WhyWraps'. -/
def whyWrapsUptoCard : Claim7 := { stood := { row := whyWrapsUptoRow, standIns := [], harness := (true, "87b936b3407ec05a912a830ebb492adf0f3001ee538bb6fe53a5bed8e1cf6544"), looks := true }, kinds := [], alts := [], laidByText := true, laidKinds := [.handle], laidTests := true, laidLooks := .later }
def WhyWrapsUptoCardSaid : Prop := Claim7.holds Tryd.pinned (.plain (OpenSpec.upto whyWrapsSpec)) whyWrapsUptoCard

/-- THE SECOND FORM's CARD OF 'tarpaulinlaw16.WhyDeep'. -/
def whyDeepUptoCard : Claim7 := { stood := { row := whyDeepUptoRow, standIns := [], harness := (true, "87b936b3407ec05a912a830ebb492adf0f3001ee538bb6fe53a5bed8e1cf6544"), looks := true }, kinds := [], alts := [], laidByText := true, laidKinds := [.handle], laidTests := true, laidLooks := .later }
def WhyDeepUptoCardSaid : Prop := Claim7.holds Tryd.pinned (.plain (OpenSpec.upto whyDeepSpec)) whyDeepUptoCard
end Rows
end Go.Proofs.YtpdljglamjanmaaDoor
