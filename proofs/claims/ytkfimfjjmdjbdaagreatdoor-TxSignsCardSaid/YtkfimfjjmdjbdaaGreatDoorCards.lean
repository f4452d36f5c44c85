/-
  DERIVED. GIVEN WITH THE SEED: THE CARDS: each row of YtkfimfjjmdjbdaaGreatDoorRows.lean that lists a variable, with what it lists TIED to the program's text (the seventh form; the later family's looks); each row that meets fmt, with fmt's text TOLD by the authors' own Lean function (tested against real Go, not proved from fmt's source: count such statements apart). THE CARD IS WHAT COUNTS. Prove the row's statement (the work); the ties are given (YtkfimfjjmdjbdaaGreatDoorTie.lean); close each card by the builder's one call (the guide's Derived/Test/ToyasCard.lean, 'card_holds'). Laid BY PROGRAM, IN A SANDBOX (cutbox-door.mjs). By AI agents, Wed Nov 11 2026. No macro, syntax, notation, axiom, sorry.
-/
import Derived.Test.YtkfimfjjmdjbdaaGreatDoorRows
import GoSem.ClaimSeven
namespace Go.Proofs.YtkfimfjjmdjbdaaGreatDoor
namespace Rows

/-- THE TIED CARD OF 'obollaw19.TxSigns'. -/
def txSignsCard : Claim7 := { stood := { row := txSignsRow, standIns := [], harness := (true, "0244975907b05ee6e7df814f3a1ea15315bbc7d215095fac5f4718a35ac9255e"), looks := true }, kinds := [], alts := [], laidByText := true, laidKinds := [.data], laidTests := true, laidLooks := .later }
def TxSignsCardSaid : Prop := Claim7.holds Tryz.pinned (.plain (OpenSpec.ofChange txSignsSpec)) txSignsCard

/-- THE TIED CARD OF 'obollaw19.TxVerifies'. -/
def txVerifiesCard : Claim7 := { stood := { row := txVerifiesRow, standIns := [], harness := (true, "0244975907b05ee6e7df814f3a1ea15315bbc7d215095fac5f4718a35ac9255e"), looks := true }, kinds := [], alts := [], laidByText := true, laidKinds := [.data], laidTests := true, laidLooks := .later }
def TxVerifiesCardSaid : Prop := Claim7.holds Tryz.pinned (.plain (OpenSpec.ofChange txVerifiesSpec)) txVerifiesCard

/-- THE SECOND FORM's CARD OF 'obollaw19.TxSigns'. -/
def txSignsUptoCard : Claim7 := { stood := { row := txSignsUptoRow, standIns := [], harness := (true, "0244975907b05ee6e7df814f3a1ea15315bbc7d215095fac5f4718a35ac9255e"), looks := true }, kinds := [], alts := [], laidByText := true, laidKinds := [.data], laidTests := true, laidLooks := .later }
def TxSignsUptoCardSaid : Prop := Claim7.holds Tryz.pinned (.plain (OpenSpec.upto txSignsSpec)) txSignsUptoCard

/-- THE SECOND FORM's CARD OF 'obollaw19.TxVerifies'. -/
def txVerifiesUptoCard : Claim7 := { stood := { row := txVerifiesUptoRow, standIns := [], harness := (true, "0244975907b05ee6e7df814f3a1ea15315bbc7d215095fac5f4718a35ac9255e"), looks := true }, kinds := [], alts := [], laidByText := true, laidKinds := [.data], laidTests := true, laidLooks := .later }
def TxVerifiesUptoCardSaid : Prop := Claim7.holds Tryz.pinned (.plain (OpenSpec.upto txVerifiesSpec)) txVerifiesUptoCard
end Rows
end Go.Proofs.YtkfimfjjmdjbdaaGreatDoor
