/-
  DERIVED. GIVEN WITH THE SEED: THE CARDS: each row of YtbdlhhajblhmiaaDoorRows.lean that lists a variable, with what it lists TIED to the program's text (the seventh form; the later family's looks); each row that meets fmt, with fmt's text TOLD by the authors' own Lean function (tested against real Go, not proved from fmt's source: count such statements apart). THE CARD IS WHAT COUNTS. Prove the row's statement (the work); the ties are given (YtbdlhhajblhmiaaDoorTie.lean); close each card by the builder's one call (the guide's Derived/Test/ToyasCard.lean, 'card_holds'). Laid BY PROGRAM, IN A SANDBOX (cutbox-door.mjs). By AI agents, Wed Nov 11 2026. No macro, syntax, notation, axiom, sorry.
-/
import Derived.Test.YtbdlhhajblhmiaaDoorRows
import GoSem.ClaimSeven
namespace Go.Proofs.YtbdlhhajblhmiaaDoor
namespace Rows

/-- THE TIED CARD OF 'caponierlaw02.InsEncodes'. -/
def insEncodesCard : Claim7 := { stood := { row := insEncodesRow, standIns := [], harness := (true, "e682f9ca1bf6f827fbcce65d56b87feb55d125ad63ae06b6e95560703e5191d9"), looks := false }, kinds := [], alts := [], laidByText := true, laidKinds := [.data], laidTests := true, laidLooks := .later }
def InsEncodesCardSaid : Prop := Claim7.holds Tryd.pinned (.plain (OpenSpec.ofChange insEncodesSpec)) insEncodesCard

/-- THE TIED CARD OF 'caponierlaw02.InsDecodes'. -/
def insDecodesCard : Claim7 := { stood := { row := insDecodesRow, standIns := [], harness := (true, "e682f9ca1bf6f827fbcce65d56b87feb55d125ad63ae06b6e95560703e5191d9"), looks := false }, kinds := [], alts := [], laidByText := true, laidKinds := [.data], laidTests := true, laidLooks := .later }
def InsDecodesCardSaid : Prop := Claim7.holds Tryd.pinned (.plain (OpenSpec.ofChange insDecodesSpec)) insDecodesCard

/-- THE TIED CARD OF 'caponierlaw02.InsApart'. -/
def insApartCard : Claim7 := { stood := { row := insApartRow, standIns := [], harness := (true, "e682f9ca1bf6f827fbcce65d56b87feb55d125ad63ae06b6e95560703e5191d9"), looks := false }, kinds := [], alts := [], laidByText := true, laidKinds := [.data], laidTests := true, laidLooks := .later }
def InsApartCardSaid : Prop := Claim7.holds Tryd.pinned (.plain (OpenSpec.ofChange insApartSpec)) insApartCard

/-- THE TIED CARD OF 'caponierlaw02.InsFields'. -/
def insFieldsCard : Claim7 := { stood := { row := insFieldsRow, standIns := [], harness := (true, "e682f9ca1bf6f827fbcce65d56b87feb55d125ad63ae06b6e95560703e5191d9"), looks := false }, kinds := [], alts := [], laidByText := true, laidKinds := [.data], laidTests := true, laidLooks := .later }
def InsFieldsCardSaid : Prop := Claim7.holds Tryd.pinned (.plain (OpenSpec.ofChange insFieldsSpec)) insFieldsCard

/-- THE TIED CARD OF 'caponierlaw02.InsForms'. -/
def insFormsCard : Claim7 := { stood := { row := insFormsRow, standIns := [], harness := (true, "e682f9ca1bf6f827fbcce65d56b87feb55d125ad63ae06b6e95560703e5191d9"), looks := false }, kinds := [], alts := [], laidByText := true, laidKinds := [.data], laidTests := true, laidLooks := .later }
def InsFormsCardSaid : Prop := Claim7.holds Tryd.pinned (.plain (OpenSpec.ofChange insFormsSpec)) insFormsCard

/-- THE TIED CARD OF 'caponierlaw02.InsBranches'. -/
def insBranchesCard : Claim7 := { stood := { row := insBranchesRow, standIns := [], harness := (true, "e682f9ca1bf6f827fbcce65d56b87feb55d125ad63ae06b6e95560703e5191d9"), looks := false }, kinds := [], alts := [], laidByText := true, laidKinds := [.data], laidTests := true, laidLooks := .later }
def InsBranchesCardSaid : Prop := Claim7.holds Tryd.pinned (.plain (OpenSpec.ofChange insBranchesSpec)) insBranchesCard

/-- THE SECOND FORM's CARD OF 'caponierlaw02.InsEncodes'. -/
def insEncodesUptoCard : Claim7 := { stood := { row := insEncodesUptoRow, standIns := [], harness := (true, "e682f9ca1bf6f827fbcce65d56b87feb55d125ad63ae06b6e95560703e5191d9"), looks := false }, kinds := [], alts := [], laidByText := true, laidKinds := [.data], laidTests := true, laidLooks := .later }
def InsEncodesUptoCardSaid : Prop := Claim7.holds Tryd.pinned (.plain (OpenSpec.upto insEncodesSpec)) insEncodesUptoCard

/-- THE SECOND FORM's CARD OF 'caponierlaw02.InsDecodes'. -/
def insDecodesUptoCard : Claim7 := { stood := { row := insDecodesUptoRow, standIns := [], harness := (true, "e682f9ca1bf6f827fbcce65d56b87feb55d125ad63ae06b6e95560703e5191d9"), looks := false }, kinds := [], alts := [], laidByText := true, laidKinds := [.data], laidTests := true, laidLooks := .later }
def InsDecodesUptoCardSaid : Prop := Claim7.holds Tryd.pinned (.plain (OpenSpec.upto insDecodesSpec)) insDecodesUptoCard

/-- THE SECOND FORM's CARD OF 'caponierlaw02.InsApart'. -/
def insApartUptoCard : Claim7 := { stood := { row := insApartUptoRow, standIns := [], harness := (true, "e682f9ca1bf6f827fbcce65d56b87feb55d125ad63ae06b6e95560703e5191d9"), looks := false }, kinds := [], alts := [], laidByText := true, laidKinds := [.data], laidTests := true, laidLooks := .later }
def InsApartUptoCardSaid : Prop := Claim7.holds Tryd.pinned (.plain (OpenSpec.upto insApartSpec)) insApartUptoCard

/-- THE SECOND FORM's CARD OF 'caponierlaw02.InsFields'. -/
def insFieldsUptoCard : Claim7 := { stood := { row := insFieldsUptoRow, standIns := [], harness := (true, "e682f9ca1bf6f827fbcce65d56b87feb55d125ad63ae06b6e95560703e5191d9"), looks := false }, kinds := [], alts := [], laidByText := true, laidKinds := [.data], laidTests := true, laidLooks := .later }
def InsFieldsUptoCardSaid : Prop := Claim7.holds Tryd.pinned (.plain (OpenSpec.upto insFieldsSpec)) insFieldsUptoCard

/-- THE SECOND FORM's CARD OF 'caponierlaw02.InsForms'. -/
def insFormsUptoCard : Claim7 := { stood := { row := insFormsUptoRow, standIns := [], harness := (true, "e682f9ca1bf6f827fbcce65d56b87feb55d125ad63ae06b6e95560703e5191d9"), looks := false }, kinds := [], alts := [], laidByText := true, laidKinds := [.data], laidTests := true, laidLooks := .later }
def InsFormsUptoCardSaid : Prop := Claim7.holds Tryd.pinned (.plain (OpenSpec.upto insFormsSpec)) insFormsUptoCard

/-- THE SECOND FORM's CARD OF 'caponierlaw02.InsBranches'. -/
def insBranchesUptoCard : Claim7 := { stood := { row := insBranchesUptoRow, standIns := [], harness := (true, "e682f9ca1bf6f827fbcce65d56b87feb55d125ad63ae06b6e95560703e5191d9"), looks := false }, kinds := [], alts := [], laidByText := true, laidKinds := [.data], laidTests := true, laidLooks := .later }
def InsBranchesUptoCardSaid : Prop := Claim7.holds Tryd.pinned (.plain (OpenSpec.upto insBranchesSpec)) insBranchesUptoCard
end Rows
end Go.Proofs.YtbdlhhajblhmiaaDoor
