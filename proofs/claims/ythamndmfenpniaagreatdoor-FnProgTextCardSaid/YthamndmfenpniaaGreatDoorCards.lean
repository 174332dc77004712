/-
  DERIVED. GIVEN WITH THE SEED: THE CARDS: each row of YthamndmfenpniaaGreatDoorRows.lean that lists a variable, with what it lists TIED to the program's text (the seventh form; the later family's looks); each row that meets fmt, with fmt's text TOLD by the authors' own Lean function (tested against real Go, not proved from fmt's source: count such statements apart). THE CARD IS WHAT COUNTS. Prove the row's statement (the work); the ties are given (YthamndmfenpniaaGreatDoorTie.lean); close each card by the builder's one call (the guide's Derived/Test/ToyasCard.lean, 'card_holds'). Laid BY PROGRAM, IN A SANDBOX (cutbox-door.mjs). By AI agents, Wed Nov 11 2026. No macro, syntax, notation, axiom, sorry.
-/
import Derived.Test.YthamndmfenpniaaGreatDoorRows
import GoSem.ClaimSeven
namespace Go.Proofs.YthamndmfenpniaaGreatDoor
namespace Rows

/-- THE TIED CARD OF 'laws.FnParseValid'. -/
def fnParseValidCard : Claim7 := { stood := { row := fnParseValidRow, standIns := [], harness := (true, "2d32d80c702d8b17545adea25f8c89a2e3a50ea1f1e473e4f7a624f10fa2be46"), looks := true }, kinds := [], alts := [], laidByText := true, laidKinds := [.data, .data, .data, .data, .sentinel, .sentinel, .data, .pinned], laidTests := true, laidLooks := .later }
def FnParseValidCardSaid : Prop := Claim7.holds Tryz.pinned (.plain (OpenSpec.ofChange fnParseValidSpec)) fnParseValidCard

/-- THE TIED CARD OF 'laws.FnProgText'. -/
def fnProgTextCard : Claim7 := { stood := { row := fnProgTextRow, standIns := [], harness := (true, "2d32d80c702d8b17545adea25f8c89a2e3a50ea1f1e473e4f7a624f10fa2be46"), looks := true }, kinds := [], alts := [], laidByText := true, laidKinds := [.data, .data, .data, .data, .sentinel, .sentinel, .data, .pinned], laidTests := true, laidLooks := .later }
def FnProgTextCardSaid : Prop := Claim7.holds Tryz.pinned (.plain (OpenSpec.ofChange fnProgTextSpec)) fnProgTextCard

/-- THE TIED CARD OF 'laws.FnExactParseProg'. -/
def fnExactParseProgCard : Claim7 := { stood := { row := fnExactParseProgRow, standIns := [], harness := (true, "2d32d80c702d8b17545adea25f8c89a2e3a50ea1f1e473e4f7a624f10fa2be46"), looks := true }, kinds := [], alts := [], laidByText := true, laidKinds := [.data, .data, .data, .data, .sentinel, .sentinel, .data, .pinned], laidTests := true, laidLooks := .later }
def FnExactParseProgCardSaid : Prop := Claim7.holds Tryz.pinned (.plain (OpenSpec.ofChange fnExactParseProgSpec)) fnExactParseProgCard

/-- THE SECOND FORM's CARD OF 'laws.FnParseValid'. -/
def fnParseValidUptoCard : Claim7 := { stood := { row := fnParseValidUptoRow, standIns := [], harness := (true, "2d32d80c702d8b17545adea25f8c89a2e3a50ea1f1e473e4f7a624f10fa2be46"), looks := true }, kinds := [], alts := [], laidByText := true, laidKinds := [.data, .data, .data, .data, .sentinel, .sentinel, .data, .pinned], laidTests := true, laidLooks := .later }
def FnParseValidUptoCardSaid : Prop := Claim7.holds Tryz.pinned (.plain (OpenSpec.upto fnParseValidSpec)) fnParseValidUptoCard

/-- THE SECOND FORM's CARD OF 'laws.FnProgText'. -/
def fnProgTextUptoCard : Claim7 := { stood := { row := fnProgTextUptoRow, standIns := [], harness := (true, "2d32d80c702d8b17545adea25f8c89a2e3a50ea1f1e473e4f7a624f10fa2be46"), looks := true }, kinds := [], alts := [], laidByText := true, laidKinds := [.data, .data, .data, .data, .sentinel, .sentinel, .data, .pinned], laidTests := true, laidLooks := .later }
def FnProgTextUptoCardSaid : Prop := Claim7.holds Tryz.pinned (.plain (OpenSpec.upto fnProgTextSpec)) fnProgTextUptoCard

/-- THE SECOND FORM's CARD OF 'laws.FnExactParseProg'. -/
def fnExactParseProgUptoCard : Claim7 := { stood := { row := fnExactParseProgUptoRow, standIns := [], harness := (true, "2d32d80c702d8b17545adea25f8c89a2e3a50ea1f1e473e4f7a624f10fa2be46"), looks := true }, kinds := [], alts := [], laidByText := true, laidKinds := [.data, .data, .data, .data, .sentinel, .sentinel, .data, .pinned], laidTests := true, laidLooks := .later }
def FnExactParseProgUptoCardSaid : Prop := Claim7.holds Tryz.pinned (.plain (OpenSpec.upto fnExactParseProgSpec)) fnExactParseProgUptoCard
end Rows
end Go.Proofs.YthamndmfenpniaaGreatDoor
