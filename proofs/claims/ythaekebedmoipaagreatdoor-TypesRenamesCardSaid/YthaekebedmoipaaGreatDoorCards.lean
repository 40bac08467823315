/-
  DERIVED. GIVEN WITH THE SEED: THE CARDS: each row of YthaekebedmoipaaGreatDoorRows.lean that lists a variable, with what it lists TIED to the program's text (the seventh form; the later family's looks); each row that meets fmt, with fmt's text TOLD by the authors' own Lean function (tested against real Go, not proved from fmt's source: count such statements apart). THE CARD IS WHAT COUNTS. Prove the row's statement (the work); the ties are given (YthaekebedmoipaaGreatDoorTie.lean); close each card by the builder's one call (the guide's Derived/Test/ToyasCard.lean, 'card_holds'). Laid BY PROGRAM, IN A SANDBOX (cutbox-door.mjs). By AI agents, Wed Nov 11 2026. No macro, syntax, notation, axiom, sorry.
-/
import Derived.Test.YthaekebedmoipaaGreatDoorRows
import GoSem.ClaimSeven
namespace Go.Proofs.YthaekebedmoipaaGreatDoor
namespace Rows

/-- THE TIED CARD OF 'warpwrightlaw03.TypesMatchesReference'. -/
def typesMatchesReferenceCard : Claim7 := { stood := { row := typesMatchesReferenceRow, standIns := [], harness := (true, "3e980fc43952cc6ed1d954a88401602cb9ea17ca8cdb0cb5bcefd69c3f1df0d7"), looks := true }, kinds := [], alts := [], laidByText := true, laidKinds := [.data, .data, .data], laidTests := true, laidLooks := .later }
def TypesMatchesReferenceCardSaid : Prop := Claim7.holds Tryz.pinned (.plain (OpenSpec.ofChange typesMatchesReferenceSpec)) typesMatchesReferenceCard

/-- THE TIED CARD OF 'warpwrightlaw03.TypesAccepts'. -/
def typesAcceptsCard : Claim7 := { stood := { row := typesAcceptsRow, standIns := [], harness := (true, "3e980fc43952cc6ed1d954a88401602cb9ea17ca8cdb0cb5bcefd69c3f1df0d7"), looks := true }, kinds := [], alts := [], laidByText := true, laidKinds := [.data, .data, .data], laidTests := true, laidLooks := .later }
def TypesAcceptsCardSaid : Prop := Claim7.holds Tryz.pinned (.plain (OpenSpec.ofChange typesAcceptsSpec)) typesAcceptsCard

/-- THE TIED CARD OF 'warpwrightlaw03.TypesRenames'. -/
def typesRenamesCard : Claim7 := { stood := { row := typesRenamesRow, standIns := [], harness := (true, "3e980fc43952cc6ed1d954a88401602cb9ea17ca8cdb0cb5bcefd69c3f1df0d7"), looks := true }, kinds := [], alts := [], laidByText := true, laidKinds := [.data, .data, .data], laidTests := true, laidLooks := .later }
def TypesRenamesCardSaid : Prop := Claim7.holds Tryz.pinned (.plain (OpenSpec.ofChange typesRenamesSpec)) typesRenamesCard

/-- THE TIED CARD OF 'warpwrightlaw03.TypesScopes'. -/
def typesScopesCard : Claim7 := { stood := { row := typesScopesRow, standIns := [], harness := (true, "3e980fc43952cc6ed1d954a88401602cb9ea17ca8cdb0cb5bcefd69c3f1df0d7"), looks := true }, kinds := [], alts := [], laidByText := true, laidKinds := [.data, .data, .data], laidTests := true, laidLooks := .later }
def TypesScopesCardSaid : Prop := Claim7.holds Tryz.pinned (.plain (OpenSpec.ofChange typesScopesSpec)) typesScopesCard

/-- THE TIED CARD OF 'warpwrightlaw03.TypesOperators'. -/
def typesOperatorsCard : Claim7 := { stood := { row := typesOperatorsRow, standIns := [], harness := (true, "3e980fc43952cc6ed1d954a88401602cb9ea17ca8cdb0cb5bcefd69c3f1df0d7"), looks := true }, kinds := [], alts := [], laidByText := true, laidKinds := [.data, .data, .data], laidTests := true, laidLooks := .later }
def TypesOperatorsCardSaid : Prop := Claim7.holds Tryz.pinned (.plain (OpenSpec.ofChange typesOperatorsSpec)) typesOperatorsCard

/-- THE TIED CARD OF 'warpwrightlaw03.TypesPrefix'. -/
def typesPrefixCard : Claim7 := { stood := { row := typesPrefixRow, standIns := [], harness := (true, "3e980fc43952cc6ed1d954a88401602cb9ea17ca8cdb0cb5bcefd69c3f1df0d7"), looks := true }, kinds := [], alts := [], laidByText := true, laidKinds := [.data, .data, .data], laidTests := true, laidLooks := .later }
def TypesPrefixCardSaid : Prop := Claim7.holds Tryz.pinned (.plain (OpenSpec.ofChange typesPrefixSpec)) typesPrefixCard

/-- THE TIED CARD OF 'warpwrightlaw03.TypesFunctions'. -/
def typesFunctionsCard : Claim7 := { stood := { row := typesFunctionsRow, standIns := [], harness := (true, "3e980fc43952cc6ed1d954a88401602cb9ea17ca8cdb0cb5bcefd69c3f1df0d7"), looks := true }, kinds := [], alts := [], laidByText := true, laidKinds := [.data, .data, .data], laidTests := true, laidLooks := .later }
def TypesFunctionsCardSaid : Prop := Claim7.holds Tryz.pinned (.plain (OpenSpec.ofChange typesFunctionsSpec)) typesFunctionsCard

/-- THE TIED CARD OF 'warpwrightlaw03.TypesRefuses'. -/
def typesRefusesCard : Claim7 := { stood := { row := typesRefusesRow, standIns := [], harness := (true, "3e980fc43952cc6ed1d954a88401602cb9ea17ca8cdb0cb5bcefd69c3f1df0d7"), looks := true }, kinds := [], alts := [], laidByText := true, laidKinds := [.data, .data, .data], laidTests := true, laidLooks := .later }
def TypesRefusesCardSaid : Prop := Claim7.holds Tryz.pinned (.plain (OpenSpec.ofChange typesRefusesSpec)) typesRefusesCard

/-- THE SECOND FORM's CARD OF 'warpwrightlaw03.TypesMatchesReference'. -/
def typesMatchesReferenceUptoCard : Claim7 := { stood := { row := typesMatchesReferenceUptoRow, standIns := [], harness := (true, "3e980fc43952cc6ed1d954a88401602cb9ea17ca8cdb0cb5bcefd69c3f1df0d7"), looks := true }, kinds := [], alts := [], laidByText := true, laidKinds := [.data, .data, .data], laidTests := true, laidLooks := .later }
def TypesMatchesReferenceUptoCardSaid : Prop := Claim7.holds Tryz.pinned (.plain (OpenSpec.upto typesMatchesReferenceSpec)) typesMatchesReferenceUptoCard

/-- THE SECOND FORM's CARD OF 'warpwrightlaw03.TypesAccepts'. -/
def typesAcceptsUptoCard : Claim7 := { stood := { row := typesAcceptsUptoRow, standIns := [], harness := (true, "3e980fc43952cc6ed1d954a88401602cb9ea17ca8cdb0cb5bcefd69c3f1df0d7"), looks := true }, kinds := [], alts := [], laidByText := true, laidKinds := [.data, .data, .data], laidTests := true, laidLooks := .later }
def TypesAcceptsUptoCardSaid : Prop := Claim7.holds Tryz.pinned (.plain (OpenSpec.upto typesAcceptsSpec)) typesAcceptsUptoCard

/-- THE SECOND FORM's CARD OF 'warpwrightlaw03.TypesRenames'. -/
def typesRenamesUptoCard : Claim7 := { stood := { row := typesRenamesUptoRow, standIns := [], harness := (true, "3e980fc43952cc6ed1d954a88401602cb9ea17ca8cdb0cb5bcefd69c3f1df0d7"), looks := true }, kinds := [], alts := [], laidByText := true, laidKinds := [.data, .data, .data], laidTests := true, laidLooks := .later }
def TypesRenamesUptoCardSaid : Prop := Claim7.holds Tryz.pinned (.plain (OpenSpec.upto typesRenamesSpec)) typesRenamesUptoCard

/-- THE SECOND FORM's CARD OF 'warpwrightlaw03.TypesScopes'. -/
def typesScopesUptoCard : Claim7 := { stood := { row := typesScopesUptoRow, standIns := [], harness := (true, "3e980fc43952cc6ed1d954a88401602cb9ea17ca8cdb0cb5bcefd69c3f1df0d7"), looks := true }, kinds := [], alts := [], laidByText := true, laidKinds := [.data, .data, .data], laidTests := true, laidLooks := .later }
def TypesScopesUptoCardSaid : Prop := Claim7.holds Tryz.pinned (.plain (OpenSpec.upto typesScopesSpec)) typesScopesUptoCard

/-- THE SECOND FORM's CARD OF 'warpwrightlaw03.TypesOperators'. -/
def typesOperatorsUptoCard : Claim7 := { stood := { row := typesOperatorsUptoRow, standIns := [], harness := (true, "3e980fc43952cc6ed1d954a88401602cb9ea17ca8cdb0cb5bcefd69c3f1df0d7"), looks := true }, kinds := [], alts := [], laidByText := true, laidKinds := [.data, .data, .data], laidTests := true, laidLooks := .later }
def TypesOperatorsUptoCardSaid : Prop := Claim7.holds Tryz.pinned (.plain (OpenSpec.upto typesOperatorsSpec)) typesOperatorsUptoCard

/-- THE SECOND FORM's CARD OF 'warpwrightlaw03.TypesPrefix'. -/
def typesPrefixUptoCard : Claim7 := { stood := { row := typesPrefixUptoRow, standIns := [], harness := (true, "3e980fc43952cc6ed1d954a88401602cb9ea17ca8cdb0cb5bcefd69c3f1df0d7"), looks := true }, kinds := [], alts := [], laidByText := true, laidKinds := [.data, .data, .data], laidTests := true, laidLooks := .later }
def TypesPrefixUptoCardSaid : Prop := Claim7.holds Tryz.pinned (.plain (OpenSpec.upto typesPrefixSpec)) typesPrefixUptoCard

/-- THE SECOND FORM's CARD OF 'warpwrightlaw03.TypesFunctions'. -/
def typesFunctionsUptoCard : Claim7 := { stood := { row := typesFunctionsUptoRow, standIns := [], harness := (true, "3e980fc43952cc6ed1d954a88401602cb9ea17ca8cdb0cb5bcefd69c3f1df0d7"), looks := true }, kinds := [], alts := [], laidByText := true, laidKinds := [.data, .data, .data], laidTests := true, laidLooks := .later }
def TypesFunctionsUptoCardSaid : Prop := Claim7.holds Tryz.pinned (.plain (OpenSpec.upto typesFunctionsSpec)) typesFunctionsUptoCard

/-- THE SECOND FORM's CARD OF 'warpwrightlaw03.TypesRefuses'. -/
def typesRefusesUptoCard : Claim7 := { stood := { row := typesRefusesUptoRow, standIns := [], harness := (true, "3e980fc43952cc6ed1d954a88401602cb9ea17ca8cdb0cb5bcefd69c3f1df0d7"), looks := true }, kinds := [], alts := [], laidByText := true, laidKinds := [.data, .data, .data], laidTests := true, laidLooks := .later }
def TypesRefusesUptoCardSaid : Prop := Claim7.holds Tryz.pinned (.plain (OpenSpec.upto typesRefusesSpec)) typesRefusesUptoCard
end Rows
end Go.Proofs.YthaekebedmoipaaGreatDoor
