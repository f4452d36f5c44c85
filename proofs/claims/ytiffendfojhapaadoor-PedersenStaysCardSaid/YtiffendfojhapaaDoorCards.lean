/-
  DERIVED. GIVEN WITH THE SEED: THE CARDS: each row of YtiffendfojhapaaDoorRows.lean that lists a variable, with what it lists TIED to the program's text (the seventh form; the later family's looks); each row that meets fmt, with fmt's text TOLD by the authors' own Lean function (tested against real Go, not proved from fmt's source: count such statements apart). THE CARD IS WHAT COUNTS. Prove the row's statement (the work); the ties are given (YtiffendfojhapaaDoorTie.lean); close each card by the builder's one call (the guide's Derived/Test/ToyasCard.lean, 'card_holds'). Laid BY PROGRAM, IN A SANDBOX (cutbox-door.mjs). By AI agents, Wed Nov 11 2026. No macro, syntax, notation, axiom, sorry.
-/
import Derived.Test.YtiffendfojhapaaDoorRows
import GoSem.ClaimSeven
namespace Go.Proofs.YtiffendfojhapaaDoor
namespace Rows

/-- THE TIED CARD OF 'obollaw05.BlakeSums'. -/
def blakeSumsCard : Claim7 := { stood := { row := blakeSumsRow, standIns := [], harness := (true, "f9d274a92b25f72fe199915392d0f97d6e4de78fb484819201ee6d2edae0a96f"), looks := true }, kinds := [], alts := [], laidByText := true, laidKinds := [.data], laidTests := true, laidLooks := .later }
def BlakeSumsCardSaid : Prop := Claim7.holds Tryd.pinned (.plain (OpenSpec.ofChange blakeSumsSpec)) blakeSumsCard

/-- THE TIED CARD OF 'obollaw05.BlakeNumbers'. -/
def blakeNumbersCard : Claim7 := { stood := { row := blakeNumbersRow, standIns := [], harness := (true, "f9d274a92b25f72fe199915392d0f97d6e4de78fb484819201ee6d2edae0a96f"), looks := true }, kinds := [], alts := [], laidByText := true, laidKinds := [.data], laidTests := true, laidLooks := .later }
def BlakeNumbersCardSaid : Prop := Claim7.holds Tryd.pinned (.plain (OpenSpec.ofChange blakeNumbersSpec)) blakeNumbersCard

/-- THE TIED CARD OF 'obollaw09.SchnorrPoints'. -/
def schnorrPointsCard : Claim7 := { stood := { row := schnorrPointsRow, standIns := [], harness := (true, "f9d274a92b25f72fe199915392d0f97d6e4de78fb484819201ee6d2edae0a96f"), looks := true }, kinds := [], alts := [], laidByText := true, laidKinds := [.data], laidTests := true, laidLooks := .later }
def SchnorrPointsCardSaid : Prop := Claim7.holds Tryd.pinned (.plain (OpenSpec.ofChange schnorrPointsSpec)) schnorrPointsCard

/-- THE TIED CARD OF 'obollaw09.SchnorrSigns'. -/
def schnorrSignsCard : Claim7 := { stood := { row := schnorrSignsRow, standIns := [], harness := (true, "f9d274a92b25f72fe199915392d0f97d6e4de78fb484819201ee6d2edae0a96f"), looks := true }, kinds := [], alts := [], laidByText := true, laidKinds := [.data], laidTests := true, laidLooks := .later }
def SchnorrSignsCardSaid : Prop := Claim7.holds Tryd.pinned (.plain (OpenSpec.ofChange schnorrSignsSpec)) schnorrSignsCard

/-- THE TIED CARD OF 'obollaw09.SchnorrVerifies'. -/
def schnorrVerifiesCard : Claim7 := { stood := { row := schnorrVerifiesRow, standIns := [], harness := (true, "f9d274a92b25f72fe199915392d0f97d6e4de78fb484819201ee6d2edae0a96f"), looks := true }, kinds := [], alts := [], laidByText := true, laidKinds := [.data], laidTests := true, laidLooks := .later }
def SchnorrVerifiesCardSaid : Prop := Claim7.holds Tryd.pinned (.plain (OpenSpec.ofChange schnorrVerifiesSpec)) schnorrVerifiesCard

/-- THE TIED CARD OF 'obollaw09.SchnorrStays'. -/
def schnorrStaysCard : Claim7 := { stood := { row := schnorrStaysRow, standIns := [], harness := (true, "f9d274a92b25f72fe199915392d0f97d6e4de78fb484819201ee6d2edae0a96f"), looks := true }, kinds := [], alts := [], laidByText := true, laidKinds := [.data], laidTests := true, laidLooks := .later }
def SchnorrStaysCardSaid : Prop := Claim7.holds Tryd.pinned (.plain (OpenSpec.ofChange schnorrStaysSpec)) schnorrStaysCard

/-- THE TIED CARD OF 'obollaw09.SchnorrTurns'. -/
def schnorrTurnsCard : Claim7 := { stood := { row := schnorrTurnsRow, standIns := [], harness := (true, "f9d274a92b25f72fe199915392d0f97d6e4de78fb484819201ee6d2edae0a96f"), looks := true }, kinds := [], alts := [], laidByText := true, laidKinds := [.data], laidTests := true, laidLooks := .later }
def SchnorrTurnsCardSaid : Prop := Claim7.holds Tryd.pinned (.plain (OpenSpec.ofChange schnorrTurnsSpec)) schnorrTurnsCard

/-- THE TIED CARD OF 'obollaw09.SchnorrHolds'. -/
def schnorrHoldsCard : Claim7 := { stood := { row := schnorrHoldsRow, standIns := [], harness := (true, "f9d274a92b25f72fe199915392d0f97d6e4de78fb484819201ee6d2edae0a96f"), looks := true }, kinds := [], alts := [], laidByText := true, laidKinds := [.data], laidTests := true, laidLooks := .later }
def SchnorrHoldsCardSaid : Prop := Claim7.holds Tryd.pinned (.plain (OpenSpec.ofChange schnorrHoldsSpec)) schnorrHoldsCard

/-- THE TIED CARD OF 'obollaw08.PedersenCommits'. -/
def pedersenCommitsCard : Claim7 := { stood := { row := pedersenCommitsRow, standIns := [], harness := (true, "f9d274a92b25f72fe199915392d0f97d6e4de78fb484819201ee6d2edae0a96f"), looks := true }, kinds := [], alts := [], laidByText := true, laidKinds := [.data], laidTests := true, laidLooks := .later }
def PedersenCommitsCardSaid : Prop := Claim7.holds Tryd.pinned (.plain (OpenSpec.ofChange pedersenCommitsSpec)) pedersenCommitsCard

/-- THE TIED CARD OF 'obollaw08.PedersenAdds'. -/
def pedersenAddsCard : Claim7 := { stood := { row := pedersenAddsRow, standIns := [], harness := (true, "f9d274a92b25f72fe199915392d0f97d6e4de78fb484819201ee6d2edae0a96f"), looks := true }, kinds := [], alts := [], laidByText := true, laidKinds := [.data], laidTests := true, laidLooks := .later }
def PedersenAddsCardSaid : Prop := Claim7.holds Tryd.pinned (.plain (OpenSpec.ofChange pedersenAddsSpec)) pedersenAddsCard

/-- THE TIED CARD OF 'obollaw08.PedersenTwo'. -/
def pedersenTwoCard : Claim7 := { stood := { row := pedersenTwoRow, standIns := [], harness := (true, "f9d274a92b25f72fe199915392d0f97d6e4de78fb484819201ee6d2edae0a96f"), looks := true }, kinds := [], alts := [], laidByText := true, laidKinds := [.data], laidTests := true, laidLooks := .later }
def PedersenTwoCardSaid : Prop := Claim7.holds Tryd.pinned (.plain (OpenSpec.ofChange pedersenTwoSpec)) pedersenTwoCard

/-- THE TIED CARD OF 'obollaw08.PedersenStays'. -/
def pedersenStaysCard : Claim7 := { stood := { row := pedersenStaysRow, standIns := [], harness := (true, "f9d274a92b25f72fe199915392d0f97d6e4de78fb484819201ee6d2edae0a96f"), looks := true }, kinds := [], alts := [], laidByText := true, laidKinds := [.data], laidTests := true, laidLooks := .later }
def PedersenStaysCardSaid : Prop := Claim7.holds Tryd.pinned (.plain (OpenSpec.ofChange pedersenStaysSpec)) pedersenStaysCard

/-- THE SECOND FORM's CARD OF 'obollaw05.BlakeSums'. -/
def blakeSumsUptoCard : Claim7 := { stood := { row := blakeSumsUptoRow, standIns := [], harness := (true, "f9d274a92b25f72fe199915392d0f97d6e4de78fb484819201ee6d2edae0a96f"), looks := true }, kinds := [], alts := [], laidByText := true, laidKinds := [.data], laidTests := true, laidLooks := .later }
def BlakeSumsUptoCardSaid : Prop := Claim7.holds Tryd.pinned (.plain (OpenSpec.upto blakeSumsSpec)) blakeSumsUptoCard

/-- THE SECOND FORM's CARD OF 'obollaw05.BlakeNumbers'. -/
def blakeNumbersUptoCard : Claim7 := { stood := { row := blakeNumbersUptoRow, standIns := [], harness := (true, "f9d274a92b25f72fe199915392d0f97d6e4de78fb484819201ee6d2edae0a96f"), looks := true }, kinds := [], alts := [], laidByText := true, laidKinds := [.data], laidTests := true, laidLooks := .later }
def BlakeNumbersUptoCardSaid : Prop := Claim7.holds Tryd.pinned (.plain (OpenSpec.upto blakeNumbersSpec)) blakeNumbersUptoCard

/-- THE SECOND FORM's CARD OF 'obollaw09.SchnorrPoints'. -/
def schnorrPointsUptoCard : Claim7 := { stood := { row := schnorrPointsUptoRow, standIns := [], harness := (true, "f9d274a92b25f72fe199915392d0f97d6e4de78fb484819201ee6d2edae0a96f"), looks := true }, kinds := [], alts := [], laidByText := true, laidKinds := [.data], laidTests := true, laidLooks := .later }
def SchnorrPointsUptoCardSaid : Prop := Claim7.holds Tryd.pinned (.plain (OpenSpec.upto schnorrPointsSpec)) schnorrPointsUptoCard

/-- THE SECOND FORM's CARD OF 'obollaw09.SchnorrSigns'. -/
def schnorrSignsUptoCard : Claim7 := { stood := { row := schnorrSignsUptoRow, standIns := [], harness := (true, "f9d274a92b25f72fe199915392d0f97d6e4de78fb484819201ee6d2edae0a96f"), looks := true }, kinds := [], alts := [], laidByText := true, laidKinds := [.data], laidTests := true, laidLooks := .later }
def SchnorrSignsUptoCardSaid : Prop := Claim7.holds Tryd.pinned (.plain (OpenSpec.upto schnorrSignsSpec)) schnorrSignsUptoCard

/-- THE SECOND FORM's CARD OF 'obollaw09.SchnorrVerifies'. -/
def schnorrVerifiesUptoCard : Claim7 := { stood := { row := schnorrVerifiesUptoRow, standIns := [], harness := (true, "f9d274a92b25f72fe199915392d0f97d6e4de78fb484819201ee6d2edae0a96f"), looks := true }, kinds := [], alts := [], laidByText := true, laidKinds := [.data], laidTests := true, laidLooks := .later }
def SchnorrVerifiesUptoCardSaid : Prop := Claim7.holds Tryd.pinned (.plain (OpenSpec.upto schnorrVerifiesSpec)) schnorrVerifiesUptoCard

/-- THE SECOND FORM's CARD OF 'obollaw09.SchnorrStays'. -/
def schnorrStaysUptoCard : Claim7 := { stood := { row := schnorrStaysUptoRow, standIns := [], harness := (true, "f9d274a92b25f72fe199915392d0f97d6e4de78fb484819201ee6d2edae0a96f"), looks := true }, kinds := [], alts := [], laidByText := true, laidKinds := [.data], laidTests := true, laidLooks := .later }
def SchnorrStaysUptoCardSaid : Prop := Claim7.holds Tryd.pinned (.plain (OpenSpec.upto schnorrStaysSpec)) schnorrStaysUptoCard

/-- THE SECOND FORM's CARD OF 'obollaw09.SchnorrTurns'. -/
def schnorrTurnsUptoCard : Claim7 := { stood := { row := schnorrTurnsUptoRow, standIns := [], harness := (true, "f9d274a92b25f72fe199915392d0f97d6e4de78fb484819201ee6d2edae0a96f"), looks := true }, kinds := [], alts := [], laidByText := true, laidKinds := [.data], laidTests := true, laidLooks := .later }
def SchnorrTurnsUptoCardSaid : Prop := Claim7.holds Tryd.pinned (.plain (OpenSpec.upto schnorrTurnsSpec)) schnorrTurnsUptoCard

/-- THE SECOND FORM's CARD OF 'obollaw09.SchnorrHolds'. -/
def schnorrHoldsUptoCard : Claim7 := { stood := { row := schnorrHoldsUptoRow, standIns := [], harness := (true, "f9d274a92b25f72fe199915392d0f97d6e4de78fb484819201ee6d2edae0a96f"), looks := true }, kinds := [], alts := [], laidByText := true, laidKinds := [.data], laidTests := true, laidLooks := .later }
def SchnorrHoldsUptoCardSaid : Prop := Claim7.holds Tryd.pinned (.plain (OpenSpec.upto schnorrHoldsSpec)) schnorrHoldsUptoCard

/-- THE SECOND FORM's CARD OF 'obollaw08.PedersenCommits'. -/
def pedersenCommitsUptoCard : Claim7 := { stood := { row := pedersenCommitsUptoRow, standIns := [], harness := (true, "f9d274a92b25f72fe199915392d0f97d6e4de78fb484819201ee6d2edae0a96f"), looks := true }, kinds := [], alts := [], laidByText := true, laidKinds := [.data], laidTests := true, laidLooks := .later }
def PedersenCommitsUptoCardSaid : Prop := Claim7.holds Tryd.pinned (.plain (OpenSpec.upto pedersenCommitsSpec)) pedersenCommitsUptoCard

/-- THE SECOND FORM's CARD OF 'obollaw08.PedersenAdds'. -/
def pedersenAddsUptoCard : Claim7 := { stood := { row := pedersenAddsUptoRow, standIns := [], harness := (true, "f9d274a92b25f72fe199915392d0f97d6e4de78fb484819201ee6d2edae0a96f"), looks := true }, kinds := [], alts := [], laidByText := true, laidKinds := [.data], laidTests := true, laidLooks := .later }
def PedersenAddsUptoCardSaid : Prop := Claim7.holds Tryd.pinned (.plain (OpenSpec.upto pedersenAddsSpec)) pedersenAddsUptoCard

/-- THE SECOND FORM's CARD OF 'obollaw08.PedersenTwo'. -/
def pedersenTwoUptoCard : Claim7 := { stood := { row := pedersenTwoUptoRow, standIns := [], harness := (true, "f9d274a92b25f72fe199915392d0f97d6e4de78fb484819201ee6d2edae0a96f"), looks := true }, kinds := [], alts := [], laidByText := true, laidKinds := [.data], laidTests := true, laidLooks := .later }
def PedersenTwoUptoCardSaid : Prop := Claim7.holds Tryd.pinned (.plain (OpenSpec.upto pedersenTwoSpec)) pedersenTwoUptoCard

/-- THE SECOND FORM's CARD OF 'obollaw08.PedersenStays'. -/
def pedersenStaysUptoCard : Claim7 := { stood := { row := pedersenStaysUptoRow, standIns := [], harness := (true, "f9d274a92b25f72fe199915392d0f97d6e4de78fb484819201ee6d2edae0a96f"), looks := true }, kinds := [], alts := [], laidByText := true, laidKinds := [.data], laidTests := true, laidLooks := .later }
def PedersenStaysUptoCardSaid : Prop := Claim7.holds Tryd.pinned (.plain (OpenSpec.upto pedersenStaysSpec)) pedersenStaysUptoCard
end Rows
end Go.Proofs.YtiffendfojhapaaDoor
