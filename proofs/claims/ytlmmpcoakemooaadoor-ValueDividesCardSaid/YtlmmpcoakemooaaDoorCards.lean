/-
  DERIVED. GIVEN WITH THE SEED: THE CARDS: each row of YtlmmpcoakemooaaDoorRows.lean that lists a variable, with what it lists TIED to the program's text (the seventh form; the later family's looks); each row that meets fmt, with fmt's text TOLD by the authors' own Lean function (tested against real Go, not proved from fmt's source: count such statements apart). THE CARD IS WHAT COUNTS. Prove the row's statement (the work); the ties are given (YtlmmpcoakemooaaDoorTie.lean); close each card by the builder's one call (the guide's Derived/Test/ToyasCard.lean, 'card_holds'). Laid BY PROGRAM, IN A SANDBOX (cutbox-door.mjs). By AI agents, Wed Nov 11 2026. No macro, syntax, notation, axiom, sorry.
-/
import Derived.Test.YtlmmpcoakemooaaDoorRows
import GoSem.ClaimSeven
namespace Go.Proofs.YtlmmpcoakemooaaDoor
namespace Rows

/-- THE TIED CARD OF 'furcatelaw05.ValueOrder'. -/
def valueOrderCard : Claim7 := { stood := { row := valueOrderRow, standIns := [], harness := (true, "fc3eb9e3d8487ccaf6739fc9570a9684dc937d09105be138496b2eee991b8378"), looks := false }, kinds := [], alts := [], laidByText := true, laidKinds := [.data, .data, .data], laidTests := true, laidLooks := .later }
def ValueOrderCardSaid : Prop := Claim7.holds Tryd.pinned (.plain (OpenSpec.ofChange valueOrderSpec)) valueOrderCard

/-- THE TIED CARD OF 'furcatelaw05.ValueRings'. -/
def valueRingsCard : Claim7 := { stood := { row := valueRingsRow, standIns := [], harness := (true, "fc3eb9e3d8487ccaf6739fc9570a9684dc937d09105be138496b2eee991b8378"), looks := false }, kinds := [], alts := [], laidByText := true, laidKinds := [.data, .data, .data], laidTests := true, laidLooks := .later }
def ValueRingsCardSaid : Prop := Claim7.holds Tryd.pinned (.plain (OpenSpec.ofChange valueRingsSpec)) valueRingsCard

/-- THE TIED CARD OF 'furcatelaw05.ValueDivides'. -/
def valueDividesCard : Claim7 := { stood := { row := valueDividesRow, standIns := [], harness := (true, "fc3eb9e3d8487ccaf6739fc9570a9684dc937d09105be138496b2eee991b8378"), looks := false }, kinds := [], alts := [], laidByText := true, laidKinds := [.data, .data, .data], laidTests := true, laidLooks := .later }
def ValueDividesCardSaid : Prop := Claim7.holds Tryd.pinned (.plain (OpenSpec.ofChange valueDividesSpec)) valueDividesCard

/-- THE TIED CARD OF 'furcatelaw05.ValueLogic'. -/
def valueLogicCard : Claim7 := { stood := { row := valueLogicRow, standIns := [], harness := (true, "fc3eb9e3d8487ccaf6739fc9570a9684dc937d09105be138496b2eee991b8378"), looks := false }, kinds := [], alts := [], laidByText := true, laidKinds := [.data, .data, .data], laidTests := true, laidLooks := .later }
def ValueLogicCardSaid : Prop := Claim7.holds Tryd.pinned (.plain (OpenSpec.ofChange valueLogicSpec)) valueLogicCard

/-- THE TIED CARD OF 'furcatelaw05.ValueMay'. -/
def valueMayCard : Claim7 := { stood := { row := valueMayRow, standIns := [], harness := (true, "fc3eb9e3d8487ccaf6739fc9570a9684dc937d09105be138496b2eee991b8378"), looks := false }, kinds := [], alts := [], laidByText := true, laidKinds := [.data, .data, .data], laidTests := true, laidLooks := .later }
def ValueMayCardSaid : Prop := Claim7.holds Tryd.pinned (.plain (OpenSpec.ofChange valueMaySpec)) valueMayCard

/-- THE TIED CARD OF 'furcatelaw05.ValueAll'. -/
def valueAllCard : Claim7 := { stood := { row := valueAllRow, standIns := [], harness := (true, "fc3eb9e3d8487ccaf6739fc9570a9684dc937d09105be138496b2eee991b8378"), looks := false }, kinds := [], alts := [], laidByText := true, laidKinds := [.data, .data, .data], laidTests := true, laidLooks := .later }
def ValueAllCardSaid : Prop := Claim7.holds Tryd.pinned (.plain (OpenSpec.ofChange valueAllSpec)) valueAllCard

/-- THE TIED CARD OF 'furcatelaw05.ValueTexts'. -/
def valueTextsCard : Claim7 := { stood := { row := valueTextsRow, standIns := [], harness := (true, "fc3eb9e3d8487ccaf6739fc9570a9684dc937d09105be138496b2eee991b8378"), looks := false }, kinds := [], alts := [], laidByText := true, laidKinds := [.data, .data, .data], laidTests := true, laidLooks := .later }
def ValueTextsCardSaid : Prop := Claim7.holds Tryd.pinned (.plain (OpenSpec.ofChange valueTextsSpec)) valueTextsCard

/-- THE SECOND FORM's CARD OF 'furcatelaw05.ValueOrder'. -/
def valueOrderUptoCard : Claim7 := { stood := { row := valueOrderUptoRow, standIns := [], harness := (true, "fc3eb9e3d8487ccaf6739fc9570a9684dc937d09105be138496b2eee991b8378"), looks := false }, kinds := [], alts := [], laidByText := true, laidKinds := [.data, .data, .data], laidTests := true, laidLooks := .later }
def ValueOrderUptoCardSaid : Prop := Claim7.holds Tryd.pinned (.plain (OpenSpec.upto valueOrderSpec)) valueOrderUptoCard

/-- THE SECOND FORM's CARD OF 'furcatelaw05.ValueRings'. -/
def valueRingsUptoCard : Claim7 := { stood := { row := valueRingsUptoRow, standIns := [], harness := (true, "fc3eb9e3d8487ccaf6739fc9570a9684dc937d09105be138496b2eee991b8378"), looks := false }, kinds := [], alts := [], laidByText := true, laidKinds := [.data, .data, .data], laidTests := true, laidLooks := .later }
def ValueRingsUptoCardSaid : Prop := Claim7.holds Tryd.pinned (.plain (OpenSpec.upto valueRingsSpec)) valueRingsUptoCard

/-- THE SECOND FORM's CARD OF 'furcatelaw05.ValueDivides'. -/
def valueDividesUptoCard : Claim7 := { stood := { row := valueDividesUptoRow, standIns := [], harness := (true, "fc3eb9e3d8487ccaf6739fc9570a9684dc937d09105be138496b2eee991b8378"), looks := false }, kinds := [], alts := [], laidByText := true, laidKinds := [.data, .data, .data], laidTests := true, laidLooks := .later }
def ValueDividesUptoCardSaid : Prop := Claim7.holds Tryd.pinned (.plain (OpenSpec.upto valueDividesSpec)) valueDividesUptoCard

/-- THE SECOND FORM's CARD OF 'furcatelaw05.ValueLogic'. -/
def valueLogicUptoCard : Claim7 := { stood := { row := valueLogicUptoRow, standIns := [], harness := (true, "fc3eb9e3d8487ccaf6739fc9570a9684dc937d09105be138496b2eee991b8378"), looks := false }, kinds := [], alts := [], laidByText := true, laidKinds := [.data, .data, .data], laidTests := true, laidLooks := .later }
def ValueLogicUptoCardSaid : Prop := Claim7.holds Tryd.pinned (.plain (OpenSpec.upto valueLogicSpec)) valueLogicUptoCard

/-- THE SECOND FORM's CARD OF 'furcatelaw05.ValueMay'. -/
def valueMayUptoCard : Claim7 := { stood := { row := valueMayUptoRow, standIns := [], harness := (true, "fc3eb9e3d8487ccaf6739fc9570a9684dc937d09105be138496b2eee991b8378"), looks := false }, kinds := [], alts := [], laidByText := true, laidKinds := [.data, .data, .data], laidTests := true, laidLooks := .later }
def ValueMayUptoCardSaid : Prop := Claim7.holds Tryd.pinned (.plain (OpenSpec.upto valueMaySpec)) valueMayUptoCard

/-- THE SECOND FORM's CARD OF 'furcatelaw05.ValueAll'. -/
def valueAllUptoCard : Claim7 := { stood := { row := valueAllUptoRow, standIns := [], harness := (true, "fc3eb9e3d8487ccaf6739fc9570a9684dc937d09105be138496b2eee991b8378"), looks := false }, kinds := [], alts := [], laidByText := true, laidKinds := [.data, .data, .data], laidTests := true, laidLooks := .later }
def ValueAllUptoCardSaid : Prop := Claim7.holds Tryd.pinned (.plain (OpenSpec.upto valueAllSpec)) valueAllUptoCard

/-- THE SECOND FORM's CARD OF 'furcatelaw05.ValueTexts'. -/
def valueTextsUptoCard : Claim7 := { stood := { row := valueTextsUptoRow, standIns := [], harness := (true, "fc3eb9e3d8487ccaf6739fc9570a9684dc937d09105be138496b2eee991b8378"), looks := false }, kinds := [], alts := [], laidByText := true, laidKinds := [.data, .data, .data], laidTests := true, laidLooks := .later }
def ValueTextsUptoCardSaid : Prop := Claim7.holds Tryd.pinned (.plain (OpenSpec.upto valueTextsSpec)) valueTextsUptoCard
end Rows
end Go.Proofs.YtlmmpcoakemooaaDoor
