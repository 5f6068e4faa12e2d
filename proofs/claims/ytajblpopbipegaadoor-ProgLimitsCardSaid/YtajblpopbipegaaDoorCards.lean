/-
  DERIVED. GIVEN WITH THE SEED: THE CARDS: each row of YtajblpopbipegaaDoorRows.lean that lists a variable, with what it lists TIED to the program's text (the seventh form; the later family's looks); each row that meets fmt, with fmt's text TOLD by the authors' own Lean function (tested against real Go, not proved from fmt's source: count such statements apart). THE CARD IS WHAT COUNTS. Prove the row's statement (the work); the ties are given (YtajblpopbipegaaDoorTie.lean); close each card by the builder's one call (the guide's Derived/Test/ToyasCard.lean, 'card_holds'). Laid BY PROGRAM, IN A SANDBOX (cutbox-door.mjs). By AI agents, Wed Nov 11 2026. No macro, syntax, notation, axiom, sorry.
-/
import Derived.Test.YtajblpopbipegaaDoorRows
import GoSem.ClaimSeven
namespace Go.Proofs.YtajblpopbipegaaDoor
namespace Rows

/-- THE TIED CARD OF 'tarpaulinlaw4.ProgTells'. -/
def progTellsCard : Claim7 := { stood := { row := progTellsRow, standIns := [], harness := (true, "283af11beb0acd5d12700db32459b5a59d92721f94512ffa37902bb4f23a1b25"), looks := false }, kinds := [], alts := [], laidByText := true, laidKinds := [.listed, .data], laidTests := true, laidLooks := .later }
def ProgTellsCardSaid : Prop := Claim7.holds Tryd.pinned (.plain (OpenSpec.ofChange progTellsSpec)) progTellsCard

/-- THE TIED CARD OF 'tarpaulinlaw4.ProgOne'. -/
def progOneCard : Claim7 := { stood := { row := progOneRow, standIns := [], harness := (true, "283af11beb0acd5d12700db32459b5a59d92721f94512ffa37902bb4f23a1b25"), looks := false }, kinds := [], alts := [], laidByText := true, laidKinds := [.listed, .data], laidTests := true, laidLooks := .later }
def ProgOneCardSaid : Prop := Claim7.holds Tryd.pinned (.plain (OpenSpec.ofChange progOneSpec)) progOneCard

/-- THE TIED CARD OF 'tarpaulinlaw4.ProgLimits'. -/
def progLimitsCard : Claim7 := { stood := { row := progLimitsRow, standIns := [], harness := (true, "283af11beb0acd5d12700db32459b5a59d92721f94512ffa37902bb4f23a1b25"), looks := false }, kinds := [], alts := [], laidByText := true, laidKinds := [.listed, .data], laidTests := true, laidLooks := .later }
def ProgLimitsCardSaid : Prop := Claim7.holds Tryd.pinned (.plain (OpenSpec.ofChange progLimitsSpec)) progLimitsCard

/-- THE TIED CARD OF 'tarpaulinlaw4.ProgRegs'. -/
def progRegsCard : Claim7 := { stood := { row := progRegsRow, standIns := [], harness := (true, "283af11beb0acd5d12700db32459b5a59d92721f94512ffa37902bb4f23a1b25"), looks := false }, kinds := [], alts := [], laidByText := true, laidKinds := [.listed, .data], laidTests := true, laidLooks := .later }
def ProgRegsCardSaid : Prop := Claim7.holds Tryd.pinned (.plain (OpenSpec.ofChange progRegsSpec)) progRegsCard

/-- THE SECOND FORM's CARD OF 'tarpaulinlaw4.ProgTells'. -/
def progTellsUptoCard : Claim7 := { stood := { row := progTellsUptoRow, standIns := [], harness := (true, "283af11beb0acd5d12700db32459b5a59d92721f94512ffa37902bb4f23a1b25"), looks := false }, kinds := [], alts := [], laidByText := true, laidKinds := [.listed, .data], laidTests := true, laidLooks := .later }
def ProgTellsUptoCardSaid : Prop := Claim7.holds Tryd.pinned (.plain (OpenSpec.upto progTellsSpec)) progTellsUptoCard

/-- THE SECOND FORM's CARD OF 'tarpaulinlaw4.ProgOne'. -/
def progOneUptoCard : Claim7 := { stood := { row := progOneUptoRow, standIns := [], harness := (true, "283af11beb0acd5d12700db32459b5a59d92721f94512ffa37902bb4f23a1b25"), looks := false }, kinds := [], alts := [], laidByText := true, laidKinds := [.listed, .data], laidTests := true, laidLooks := .later }
def ProgOneUptoCardSaid : Prop := Claim7.holds Tryd.pinned (.plain (OpenSpec.upto progOneSpec)) progOneUptoCard

/-- THE SECOND FORM's CARD OF 'tarpaulinlaw4.ProgLimits'. -/
def progLimitsUptoCard : Claim7 := { stood := { row := progLimitsUptoRow, standIns := [], harness := (true, "283af11beb0acd5d12700db32459b5a59d92721f94512ffa37902bb4f23a1b25"), looks := false }, kinds := [], alts := [], laidByText := true, laidKinds := [.listed, .data], laidTests := true, laidLooks := .later }
def ProgLimitsUptoCardSaid : Prop := Claim7.holds Tryd.pinned (.plain (OpenSpec.upto progLimitsSpec)) progLimitsUptoCard

/-- THE SECOND FORM's CARD OF 'tarpaulinlaw4.ProgRegs'. -/
def progRegsUptoCard : Claim7 := { stood := { row := progRegsUptoRow, standIns := [], harness := (true, "283af11beb0acd5d12700db32459b5a59d92721f94512ffa37902bb4f23a1b25"), looks := false }, kinds := [], alts := [], laidByText := true, laidKinds := [.listed, .data], laidTests := true, laidLooks := .later }
def ProgRegsUptoCardSaid : Prop := Claim7.holds Tryd.pinned (.plain (OpenSpec.upto progRegsSpec)) progRegsUptoCard
end Rows
end Go.Proofs.YtajblpopbipegaaDoor
