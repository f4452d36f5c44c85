/-
  DERIVED. GIVEN WITH THE SEED: THE CARDS: each row of YtcdfpceagobicaaDoorRows.lean that lists a variable, with what it lists TIED to the program's text (the seventh form; the later family's looks); each row that meets fmt, with fmt's text TOLD by the authors' own Lean function (tested against real Go, not proved from fmt's source: count such statements apart). THE CARD IS WHAT COUNTS. Prove the row's statement (the work); the ties are given (YtcdfpceagobicaaDoorTie.lean); close each card by the builder's one call (the guide's Derived/Test/ToyasCard.lean, 'card_holds'). Laid BY PROGRAM, IN A SANDBOX (cutbox-door.mjs). By AI agents, Wed Nov 11 2026. No macro, syntax, notation, axiom, sorry.
-/
import Derived.Test.YtcdfpceagobicaaDoorRows
import GoSem.ClaimSeven
namespace Go.Proofs.YtcdfpceagobicaaDoor
namespace Rows

/-- THE TIED CARD OF 'obollaw05.BlakeSums'. -/
def blakeSumsCard : Claim7 := { stood := { row := blakeSumsRow, standIns := [], harness := (true, "f75872f1c50f897754169a319509f1150d95eb740a9a412d7b7e27b4928491ec"), looks := true }, kinds := [], alts := [], laidByText := true, laidKinds := [.data], laidTests := true, laidLooks := .later }
def BlakeSumsCardSaid : Prop := Claim7.holds Tryd.pinned (.plain (OpenSpec.ofChange blakeSumsSpec)) blakeSumsCard

/-- THE TIED CARD OF 'obollaw05.BlakePerson'. -/
def blakePersonCard : Claim7 := { stood := { row := blakePersonRow, standIns := [], harness := (true, "f75872f1c50f897754169a319509f1150d95eb740a9a412d7b7e27b4928491ec"), looks := true }, kinds := [], alts := [], laidByText := true, laidKinds := [.data], laidTests := true, laidLooks := .later }
def BlakePersonCardSaid : Prop := Claim7.holds Tryd.pinned (.plain (OpenSpec.ofChange blakePersonSpec)) blakePersonCard

/-- THE TIED CARD OF 'obollaw05.BlakeStays'. -/
def blakeStaysCard : Claim7 := { stood := { row := blakeStaysRow, standIns := [], harness := (true, "f75872f1c50f897754169a319509f1150d95eb740a9a412d7b7e27b4928491ec"), looks := true }, kinds := [], alts := [], laidByText := true, laidKinds := [.data], laidTests := true, laidLooks := .later }
def BlakeStaysCardSaid : Prop := Claim7.holds Tryd.pinned (.plain (OpenSpec.ofChange blakeStaysSpec)) blakeStaysCard

/-- THE TIED CARD OF 'obollaw05.BlakeNumbers'. -/
def blakeNumbersCard : Claim7 := { stood := { row := blakeNumbersRow, standIns := [], harness := (true, "f75872f1c50f897754169a319509f1150d95eb740a9a412d7b7e27b4928491ec"), looks := true }, kinds := [], alts := [], laidByText := true, laidKinds := [.data], laidTests := true, laidLooks := .later }
def BlakeNumbersCardSaid : Prop := Claim7.holds Tryd.pinned (.plain (OpenSpec.ofChange blakeNumbersSpec)) blakeNumbersCard

/-- THE TIED CARD OF 'obollaw07.EdwardsGroup'. -/
def edwardsGroupCard : Claim7 := { stood := { row := edwardsGroupRow, standIns := [], harness := (true, "f75872f1c50f897754169a319509f1150d95eb740a9a412d7b7e27b4928491ec"), looks := true }, kinds := [], alts := [], laidByText := true, laidKinds := [.data], laidTests := true, laidLooks := .later }
def EdwardsGroupCardSaid : Prop := Claim7.holds Tryd.pinned (.plain (OpenSpec.ofChange edwardsGroupSpec)) edwardsGroupCard

/-- THE SECOND FORM's CARD OF 'obollaw05.BlakeSums'. -/
def blakeSumsUptoCard : Claim7 := { stood := { row := blakeSumsUptoRow, standIns := [], harness := (true, "f75872f1c50f897754169a319509f1150d95eb740a9a412d7b7e27b4928491ec"), looks := true }, kinds := [], alts := [], laidByText := true, laidKinds := [.data], laidTests := true, laidLooks := .later }
def BlakeSumsUptoCardSaid : Prop := Claim7.holds Tryd.pinned (.plain (OpenSpec.upto blakeSumsSpec)) blakeSumsUptoCard

/-- THE SECOND FORM's CARD OF 'obollaw05.BlakePerson'. -/
def blakePersonUptoCard : Claim7 := { stood := { row := blakePersonUptoRow, standIns := [], harness := (true, "f75872f1c50f897754169a319509f1150d95eb740a9a412d7b7e27b4928491ec"), looks := true }, kinds := [], alts := [], laidByText := true, laidKinds := [.data], laidTests := true, laidLooks := .later }
def BlakePersonUptoCardSaid : Prop := Claim7.holds Tryd.pinned (.plain (OpenSpec.upto blakePersonSpec)) blakePersonUptoCard

/-- THE SECOND FORM's CARD OF 'obollaw05.BlakeStays'. -/
def blakeStaysUptoCard : Claim7 := { stood := { row := blakeStaysUptoRow, standIns := [], harness := (true, "f75872f1c50f897754169a319509f1150d95eb740a9a412d7b7e27b4928491ec"), looks := true }, kinds := [], alts := [], laidByText := true, laidKinds := [.data], laidTests := true, laidLooks := .later }
def BlakeStaysUptoCardSaid : Prop := Claim7.holds Tryd.pinned (.plain (OpenSpec.upto blakeStaysSpec)) blakeStaysUptoCard

/-- THE SECOND FORM's CARD OF 'obollaw05.BlakeNumbers'. -/
def blakeNumbersUptoCard : Claim7 := { stood := { row := blakeNumbersUptoRow, standIns := [], harness := (true, "f75872f1c50f897754169a319509f1150d95eb740a9a412d7b7e27b4928491ec"), looks := true }, kinds := [], alts := [], laidByText := true, laidKinds := [.data], laidTests := true, laidLooks := .later }
def BlakeNumbersUptoCardSaid : Prop := Claim7.holds Tryd.pinned (.plain (OpenSpec.upto blakeNumbersSpec)) blakeNumbersUptoCard

/-- THE SECOND FORM's CARD OF 'obollaw07.EdwardsGroup'. -/
def edwardsGroupUptoCard : Claim7 := { stood := { row := edwardsGroupUptoRow, standIns := [], harness := (true, "f75872f1c50f897754169a319509f1150d95eb740a9a412d7b7e27b4928491ec"), looks := true }, kinds := [], alts := [], laidByText := true, laidKinds := [.data], laidTests := true, laidLooks := .later }
def EdwardsGroupUptoCardSaid : Prop := Claim7.holds Tryd.pinned (.plain (OpenSpec.upto edwardsGroupSpec)) edwardsGroupUptoCard
end Rows
end Go.Proofs.YtcdfpceagobicaaDoor
