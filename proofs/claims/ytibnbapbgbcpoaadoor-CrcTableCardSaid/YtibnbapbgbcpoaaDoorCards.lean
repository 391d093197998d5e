/-
  DERIVED. GIVEN WITH THE SEED: THE CARDS: each row of YtibnbapbgbcpoaaDoorRows.lean that lists a variable, with what it lists TIED to the program's text (the seventh form; the later family's looks); each row that meets fmt, with fmt's text TOLD by the authors' own Lean function (tested against real Go, not proved from fmt's source: count such statements apart). THE CARD IS WHAT COUNTS. Prove the row's statement (the work); the ties are given (YtibnbapbgbcpoaaDoorTie.lean); close each card by the builder's one call (the guide's Derived/Test/ToyasCard.lean, 'card_holds'). Laid BY PROGRAM, IN A SANDBOX (cutbox-door.mjs). By AI agents, Wed Nov 11 2026. No macro, syntax, notation, axiom, sorry.
-/
import Derived.Test.YtibnbapbgbcpoaaDoorRows
import GoSem.ClaimSeven
namespace Go.Proofs.YtibnbapbgbcpoaaDoor
namespace Rows

/-- THE TIED CARD OF 'gambrellaw13.CrcTells'. -/
def crcTellsCard : Claim7 := { stood := { row := crcTellsRow, standIns := [], harness := (true, "4858baffdc1cbac3269bcf82988c0d35abf5cc1cefbb098472017364c0703e30"), looks := true }, kinds := [], alts := [], laidByText := true, laidKinds := [.data, .data, .data, .sentinel, .sentinel], laidTests := true, laidLooks := .later }
def CrcTellsCardSaid : Prop := Claim7.holds Tryd.pinned (.plain (OpenSpec.ofChange crcTellsSpec)) crcTellsCard

/-- THE TIED CARD OF 'gambrellaw13.CrcTable'. -/
def crcTableCard : Claim7 := { stood := { row := crcTableRow, standIns := [], harness := (true, "4858baffdc1cbac3269bcf82988c0d35abf5cc1cefbb098472017364c0703e30"), looks := true }, kinds := [], alts := [], laidByText := true, laidKinds := [.data, .data, .data, .sentinel, .sentinel], laidTests := true, laidLooks := .later }
def CrcTableCardSaid : Prop := Claim7.holds Tryd.pinned (.plain (OpenSpec.ofChange crcTableSpec)) crcTableCard

/-- THE TIED CARD OF 'gambrellaw13.CrcJoins'. -/
def crcJoinsCard : Claim7 := { stood := { row := crcJoinsRow, standIns := [], harness := (true, "4858baffdc1cbac3269bcf82988c0d35abf5cc1cefbb098472017364c0703e30"), looks := true }, kinds := [], alts := [], laidByText := true, laidKinds := [.data, .data, .data, .sentinel, .sentinel], laidTests := true, laidLooks := .later }
def CrcJoinsCardSaid : Prop := Claim7.holds Tryd.pinned (.plain (OpenSpec.ofChange crcJoinsSpec)) crcJoinsCard

/-- THE TIED CARD OF 'gambrellaw13.CrcOther'. -/
def crcOtherCard : Claim7 := { stood := { row := crcOtherRow, standIns := [], harness := (true, "4858baffdc1cbac3269bcf82988c0d35abf5cc1cefbb098472017364c0703e30"), looks := true }, kinds := [], alts := [], laidByText := true, laidKinds := [.data, .data, .data, .sentinel, .sentinel], laidTests := true, laidLooks := .later }
def CrcOtherCardSaid : Prop := Claim7.holds Tryd.pinned (.plain (OpenSpec.ofChange crcOtherSpec)) crcOtherCard

/-- THE TIED CARD OF 'gambrellaw13.CrcAdds'. -/
def crcAddsCard : Claim7 := { stood := { row := crcAddsRow, standIns := [], harness := (true, "4858baffdc1cbac3269bcf82988c0d35abf5cc1cefbb098472017364c0703e30"), looks := true }, kinds := [], alts := [], laidByText := true, laidKinds := [.data, .data, .data, .sentinel, .sentinel], laidTests := true, laidLooks := .later }
def CrcAddsCardSaid : Prop := Claim7.holds Tryd.pinned (.plain (OpenSpec.ofChange crcAddsSpec)) crcAddsCard

/-- THE TIED CARD OF 'gambrellaw13.CrcText'. -/
def crcTextCard : Claim7 := { stood := { row := crcTextRow, standIns := [], harness := (true, "4858baffdc1cbac3269bcf82988c0d35abf5cc1cefbb098472017364c0703e30"), looks := true }, kinds := [], alts := [], laidByText := true, laidKinds := [.data, .data, .data, .sentinel, .sentinel], laidTests := true, laidLooks := .later }
def CrcTextCardSaid : Prop := Claim7.holds Tryd.pinned (.plain (OpenSpec.ofChange crcTextSpec)) crcTextCard

/-- THE SECOND FORM's CARD OF 'gambrellaw13.CrcTells'. -/
def crcTellsUptoCard : Claim7 := { stood := { row := crcTellsUptoRow, standIns := [], harness := (true, "4858baffdc1cbac3269bcf82988c0d35abf5cc1cefbb098472017364c0703e30"), looks := true }, kinds := [], alts := [], laidByText := true, laidKinds := [.data, .data, .data, .sentinel, .sentinel], laidTests := true, laidLooks := .later }
def CrcTellsUptoCardSaid : Prop := Claim7.holds Tryd.pinned (.plain (OpenSpec.upto crcTellsSpec)) crcTellsUptoCard

/-- THE SECOND FORM's CARD OF 'gambrellaw13.CrcTable'. -/
def crcTableUptoCard : Claim7 := { stood := { row := crcTableUptoRow, standIns := [], harness := (true, "4858baffdc1cbac3269bcf82988c0d35abf5cc1cefbb098472017364c0703e30"), looks := true }, kinds := [], alts := [], laidByText := true, laidKinds := [.data, .data, .data, .sentinel, .sentinel], laidTests := true, laidLooks := .later }
def CrcTableUptoCardSaid : Prop := Claim7.holds Tryd.pinned (.plain (OpenSpec.upto crcTableSpec)) crcTableUptoCard

/-- THE SECOND FORM's CARD OF 'gambrellaw13.CrcJoins'. -/
def crcJoinsUptoCard : Claim7 := { stood := { row := crcJoinsUptoRow, standIns := [], harness := (true, "4858baffdc1cbac3269bcf82988c0d35abf5cc1cefbb098472017364c0703e30"), looks := true }, kinds := [], alts := [], laidByText := true, laidKinds := [.data, .data, .data, .sentinel, .sentinel], laidTests := true, laidLooks := .later }
def CrcJoinsUptoCardSaid : Prop := Claim7.holds Tryd.pinned (.plain (OpenSpec.upto crcJoinsSpec)) crcJoinsUptoCard

/-- THE SECOND FORM's CARD OF 'gambrellaw13.CrcOther'. -/
def crcOtherUptoCard : Claim7 := { stood := { row := crcOtherUptoRow, standIns := [], harness := (true, "4858baffdc1cbac3269bcf82988c0d35abf5cc1cefbb098472017364c0703e30"), looks := true }, kinds := [], alts := [], laidByText := true, laidKinds := [.data, .data, .data, .sentinel, .sentinel], laidTests := true, laidLooks := .later }
def CrcOtherUptoCardSaid : Prop := Claim7.holds Tryd.pinned (.plain (OpenSpec.upto crcOtherSpec)) crcOtherUptoCard

/-- THE SECOND FORM's CARD OF 'gambrellaw13.CrcAdds'. -/
def crcAddsUptoCard : Claim7 := { stood := { row := crcAddsUptoRow, standIns := [], harness := (true, "4858baffdc1cbac3269bcf82988c0d35abf5cc1cefbb098472017364c0703e30"), looks := true }, kinds := [], alts := [], laidByText := true, laidKinds := [.data, .data, .data, .sentinel, .sentinel], laidTests := true, laidLooks := .later }
def CrcAddsUptoCardSaid : Prop := Claim7.holds Tryd.pinned (.plain (OpenSpec.upto crcAddsSpec)) crcAddsUptoCard

/-- THE SECOND FORM's CARD OF 'gambrellaw13.CrcText'. -/
def crcTextUptoCard : Claim7 := { stood := { row := crcTextUptoRow, standIns := [], harness := (true, "4858baffdc1cbac3269bcf82988c0d35abf5cc1cefbb098472017364c0703e30"), looks := true }, kinds := [], alts := [], laidByText := true, laidKinds := [.data, .data, .data, .sentinel, .sentinel], laidTests := true, laidLooks := .later }
def CrcTextUptoCardSaid : Prop := Claim7.holds Tryd.pinned (.plain (OpenSpec.upto crcTextSpec)) crcTextUptoCard
end Rows
end Go.Proofs.YtibnbapbgbcpoaaDoor
