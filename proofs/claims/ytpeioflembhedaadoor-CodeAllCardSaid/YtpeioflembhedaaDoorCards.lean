/-
  DERIVED. GIVEN WITH THE SEED: THE CARDS: each row of YtpeioflembhedaaDoorRows.lean that lists a variable, with what it lists TIED to the program's text (the seventh form; the later family's looks); each row that meets fmt, with fmt's text TOLD by the authors' own Lean function (tested against real Go, not proved from fmt's source: count such statements apart). THE CARD IS WHAT COUNTS. Prove the row's statement (the work); the ties are given (YtpeioflembhedaaDoorTie.lean); close each card by the builder's one call (the guide's Derived/Test/ToyasCard.lean, 'card_holds'). Laid BY PROGRAM, IN A SANDBOX (cutbox-door.mjs). By AI agents, Wed Nov 11 2026. No macro, syntax, notation, axiom, sorry.
-/
import Derived.Test.YtpeioflembhedaaDoorRows
import GoSem.ClaimSeven
namespace Go.Proofs.YtpeioflembhedaaDoor
namespace Rows

/-- THE TIED CARD OF 'furcatelaw08.CodeNames'. -/
def codeNamesCard : Claim7 := { stood := { row := codeNamesRow, standIns := [], harness := (true, "a721b2e75476f39614703b410fce8075e1fb4ee9c3e471a1d4240a8ce2d8d87b"), looks := false }, kinds := [], alts := [], laidByText := true, laidKinds := [.data, .data, .data, .data, .pinned], laidTests := true, laidLooks := .later }
def CodeNamesCardSaid : Prop := Claim7.holds Tryd.pinned (.plain (OpenSpec.ofChange codeNamesSpec)) codeNamesCard

/-- THE TIED CARD OF 'furcatelaw08.CodeLong'. -/
def codeLongCard : Claim7 := { stood := { row := codeLongRow, standIns := [], harness := (true, "a721b2e75476f39614703b410fce8075e1fb4ee9c3e471a1d4240a8ce2d8d87b"), looks := false }, kinds := [], alts := [], laidByText := true, laidKinds := [.data, .data, .data, .data, .pinned], laidTests := true, laidLooks := .later }
def CodeLongCardSaid : Prop := Claim7.holds Tryd.pinned (.plain (OpenSpec.ofChange codeLongSpec)) codeLongCard

/-- THE TIED CARD OF 'furcatelaw08.CodeAll'. -/
def codeAllCard : Claim7 := { stood := { row := codeAllRow, standIns := [], harness := (true, "a721b2e75476f39614703b410fce8075e1fb4ee9c3e471a1d4240a8ce2d8d87b"), looks := false }, kinds := [], alts := [], laidByText := true, laidKinds := [.data, .data, .data, .data, .pinned], laidTests := true, laidLooks := .later }
def CodeAllCardSaid : Prop := Claim7.holds Tryd.pinned (.plain (OpenSpec.ofChange codeAllSpec)) codeAllCard

/-- THE TIED CARD OF 'furcatelaw08.CodeBack'. -/
def codeBackCard : Claim7 := { stood := { row := codeBackRow, standIns := [], harness := (true, "a721b2e75476f39614703b410fce8075e1fb4ee9c3e471a1d4240a8ce2d8d87b"), looks := false }, kinds := [], alts := [], laidByText := true, laidKinds := [.data, .data, .data, .data, .pinned], laidTests := true, laidLooks := .later }
def CodeBackCardSaid : Prop := Claim7.holds Tryd.pinned (.plain (OpenSpec.ofChange codeBackSpec)) codeBackCard

/-- THE SECOND FORM's CARD OF 'furcatelaw08.CodeNames'. -/
def codeNamesUptoCard : Claim7 := { stood := { row := codeNamesUptoRow, standIns := [], harness := (true, "a721b2e75476f39614703b410fce8075e1fb4ee9c3e471a1d4240a8ce2d8d87b"), looks := false }, kinds := [], alts := [], laidByText := true, laidKinds := [.data, .data, .data, .data, .pinned], laidTests := true, laidLooks := .later }
def CodeNamesUptoCardSaid : Prop := Claim7.holds Tryd.pinned (.plain (OpenSpec.upto codeNamesSpec)) codeNamesUptoCard

/-- THE SECOND FORM's CARD OF 'furcatelaw08.CodeLong'. -/
def codeLongUptoCard : Claim7 := { stood := { row := codeLongUptoRow, standIns := [], harness := (true, "a721b2e75476f39614703b410fce8075e1fb4ee9c3e471a1d4240a8ce2d8d87b"), looks := false }, kinds := [], alts := [], laidByText := true, laidKinds := [.data, .data, .data, .data, .pinned], laidTests := true, laidLooks := .later }
def CodeLongUptoCardSaid : Prop := Claim7.holds Tryd.pinned (.plain (OpenSpec.upto codeLongSpec)) codeLongUptoCard

/-- THE SECOND FORM's CARD OF 'furcatelaw08.CodeAll'. -/
def codeAllUptoCard : Claim7 := { stood := { row := codeAllUptoRow, standIns := [], harness := (true, "a721b2e75476f39614703b410fce8075e1fb4ee9c3e471a1d4240a8ce2d8d87b"), looks := false }, kinds := [], alts := [], laidByText := true, laidKinds := [.data, .data, .data, .data, .pinned], laidTests := true, laidLooks := .later }
def CodeAllUptoCardSaid : Prop := Claim7.holds Tryd.pinned (.plain (OpenSpec.upto codeAllSpec)) codeAllUptoCard

/-- THE SECOND FORM's CARD OF 'furcatelaw08.CodeBack'. -/
def codeBackUptoCard : Claim7 := { stood := { row := codeBackUptoRow, standIns := [], harness := (true, "a721b2e75476f39614703b410fce8075e1fb4ee9c3e471a1d4240a8ce2d8d87b"), looks := false }, kinds := [], alts := [], laidByText := true, laidKinds := [.data, .data, .data, .data, .pinned], laidTests := true, laidLooks := .later }
def CodeBackUptoCardSaid : Prop := Claim7.holds Tryd.pinned (.plain (OpenSpec.upto codeBackSpec)) codeBackUptoCard
end Rows
end Go.Proofs.YtpeioflembhedaaDoor
