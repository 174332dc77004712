/-
  DERIVED. GIVEN WITH THE SEED: THE CARDS: each row of YtnobkdkfhgjeeabDoorRows.lean that lists a variable, with what it lists TIED to the program's text (the seventh form; the later family's looks); each row that meets fmt, with fmt's text TOLD by the authors' own Lean function (tested against real Go, not proved from fmt's source: count such statements apart). THE CARD IS WHAT COUNTS. Prove the row's statement (the work); the ties are given (YtnobkdkfhgjeeabDoorTie.lean); close each card by the builder's one call (the guide's Derived/Test/ToyasCard.lean, 'card_holds'). Laid BY PROGRAM, IN A SANDBOX (cutbox-door.mjs). By AI agents, Wed Nov 11 2026. No macro, syntax, notation, axiom, sorry.
-/
import Derived.Test.YtnobkdkfhgjeeabDoorRows
import GoSem.ClaimSeven
namespace Go.Proofs.YtnobkdkfhgjeeabDoor
namespace Rows

/-- THE TIED CARD OF 'laws.FnExactFormatProg'. -/
def fnExactFormatProgCard : Claim7 := { stood := { row := fnExactFormatProgRow, standIns := [], harness := (true, "b31ae709db68373b9a62129fb31ff4c636440782755d4a8c175b2bc610c1a9c6"), looks := false }, kinds := [], alts := [], laidByText := true, laidKinds := [.data, .data, .data, .data], laidTests := true, laidLooks := .later }
def FnExactFormatProgCardSaid : Prop := Claim7.holds Tryd.pinned (.plain (OpenSpec.ofChange fnExactFormatProgSpec)) fnExactFormatProgCard

/-- THE TIED CARD OF 'laws.FnProgLines'. -/
def fnProgLinesCard : Claim7 := { stood := { row := fnProgLinesRow, standIns := [], harness := (true, "b31ae709db68373b9a62129fb31ff4c636440782755d4a8c175b2bc610c1a9c6"), looks := false }, kinds := [], alts := [], laidByText := true, laidKinds := [.data, .data, .data, .data], laidTests := true, laidLooks := .later }
def FnProgLinesCardSaid : Prop := Claim7.holds Tryd.pinned (.plain (OpenSpec.ofChange fnProgLinesSpec)) fnProgLinesCard

/-- THE TIED CARD OF 'laws.FnProgSame'. -/
def fnProgSameCard : Claim7 := { stood := { row := fnProgSameRow, standIns := [], harness := (true, "b31ae709db68373b9a62129fb31ff4c636440782755d4a8c175b2bc610c1a9c6"), looks := false }, kinds := [], alts := [], laidByText := true, laidKinds := [.data, .data, .data, .data], laidTests := true, laidLooks := .later }
def FnProgSameCardSaid : Prop := Claim7.holds Tryd.pinned (.plain (OpenSpec.ofChange fnProgSameSpec)) fnProgSameCard

/-- THE SECOND FORM's CARD OF 'laws.FnExactFormatProg'. -/
def fnExactFormatProgUptoCard : Claim7 := { stood := { row := fnExactFormatProgUptoRow, standIns := [], harness := (true, "b31ae709db68373b9a62129fb31ff4c636440782755d4a8c175b2bc610c1a9c6"), looks := false }, kinds := [], alts := [], laidByText := true, laidKinds := [.data, .data, .data, .data], laidTests := true, laidLooks := .later }
def FnExactFormatProgUptoCardSaid : Prop := Claim7.holds Tryd.pinned (.plain (OpenSpec.upto fnExactFormatProgSpec)) fnExactFormatProgUptoCard

/-- THE SECOND FORM's CARD OF 'laws.FnProgLines'. -/
def fnProgLinesUptoCard : Claim7 := { stood := { row := fnProgLinesUptoRow, standIns := [], harness := (true, "b31ae709db68373b9a62129fb31ff4c636440782755d4a8c175b2bc610c1a9c6"), looks := false }, kinds := [], alts := [], laidByText := true, laidKinds := [.data, .data, .data, .data], laidTests := true, laidLooks := .later }
def FnProgLinesUptoCardSaid : Prop := Claim7.holds Tryd.pinned (.plain (OpenSpec.upto fnProgLinesSpec)) fnProgLinesUptoCard

/-- THE SECOND FORM's CARD OF 'laws.FnProgSame'. -/
def fnProgSameUptoCard : Claim7 := { stood := { row := fnProgSameUptoRow, standIns := [], harness := (true, "b31ae709db68373b9a62129fb31ff4c636440782755d4a8c175b2bc610c1a9c6"), looks := false }, kinds := [], alts := [], laidByText := true, laidKinds := [.data, .data, .data, .data], laidTests := true, laidLooks := .later }
def FnProgSameUptoCardSaid : Prop := Claim7.holds Tryd.pinned (.plain (OpenSpec.upto fnProgSameSpec)) fnProgSameUptoCard
end Rows
end Go.Proofs.YtnobkdkfhgjeeabDoor
