/-
  DERIVED. GIVEN WITH THE SEED: THE CARDS: each row of YtallfmiikjmgaaaDoorRows.lean that lists a variable, with what it lists TIED to the program's text (the seventh form; the later family's looks); each row that meets fmt, with fmt's text TOLD by the authors' own Lean function (tested against real Go, not proved from fmt's source: count such statements apart). THE CARD IS WHAT COUNTS. Prove the row's statement (the work); the ties are given (YtallfmiikjmgaaaDoorTie.lean); close each card by the builder's one call (the guide's Derived/Test/ToyasCard.lean, 'card_holds'). Laid BY PROGRAM, IN A SANDBOX (cutbox-door.mjs). By AI agents, Wed Nov 11 2026. No macro, syntax, notation, axiom, sorry.
-/
import Derived.Test.YtallfmiikjmgaaaDoorRows
import GoSem.ClaimSeven
namespace Go.Proofs.YtallfmiikjmgaaaDoor
namespace Rows

/-- THE TIED CARD OF 'obollaw17.NoteKeys'. -/
def noteKeysCard : Claim7 := { stood := { row := noteKeysRow, standIns := [], harness := (true, "2725adef52b7bb5a8446b05b0314fd82d6453772c554f2a9e23bb24af2651f34"), looks := true }, kinds := [], alts := [], laidByText := true, laidKinds := [.data], laidTests := true, laidLooks := .later }
def NoteKeysCardSaid : Prop := Claim7.holds Tryd.pinned (.plain (OpenSpec.ofChange noteKeysSpec)) noteKeysCard

/-- THE TIED CARD OF 'obollaw17.NoteSeals'. -/
def noteSealsCard : Claim7 := { stood := { row := noteSealsRow, standIns := [], harness := (true, "2725adef52b7bb5a8446b05b0314fd82d6453772c554f2a9e23bb24af2651f34"), looks := true }, kinds := [], alts := [], laidByText := true, laidKinds := [.data], laidTests := true, laidLooks := .later }
def NoteSealsCardSaid : Prop := Claim7.holds Tryd.pinned (.plain (OpenSpec.ofChange noteSealsSpec)) noteSealsCard

/-- THE TIED CARD OF 'obollaw17.NoteOpens'. -/
def noteOpensCard : Claim7 := { stood := { row := noteOpensRow, standIns := [], harness := (true, "2725adef52b7bb5a8446b05b0314fd82d6453772c554f2a9e23bb24af2651f34"), looks := true }, kinds := [], alts := [], laidByText := true, laidKinds := [.data], laidTests := true, laidLooks := .later }
def NoteOpensCardSaid : Prop := Claim7.holds Tryd.pinned (.plain (OpenSpec.ofChange noteOpensSpec)) noteOpensCard

/-- THE TIED CARD OF 'obollaw17.NoteBack'. -/
def noteBackCard : Claim7 := { stood := { row := noteBackRow, standIns := [], harness := (true, "2725adef52b7bb5a8446b05b0314fd82d6453772c554f2a9e23bb24af2651f34"), looks := true }, kinds := [], alts := [], laidByText := true, laidKinds := [.data], laidTests := true, laidLooks := .later }
def NoteBackCardSaid : Prop := Claim7.holds Tryd.pinned (.plain (OpenSpec.ofChange noteBackSpec)) noteBackCard

/-- THE TIED CARD OF 'obollaw17.NoteStays'. -/
def noteStaysCard : Claim7 := { stood := { row := noteStaysRow, standIns := [], harness := (true, "2725adef52b7bb5a8446b05b0314fd82d6453772c554f2a9e23bb24af2651f34"), looks := true }, kinds := [], alts := [], laidByText := true, laidKinds := [.data], laidTests := true, laidLooks := .later }
def NoteStaysCardSaid : Prop := Claim7.holds Tryd.pinned (.plain (OpenSpec.ofChange noteStaysSpec)) noteStaysCard

/-- THE TIED CARD OF 'obollaw17.NoteMarks'. -/
def noteMarksCard : Claim7 := { stood := { row := noteMarksRow, standIns := [], harness := (true, "2725adef52b7bb5a8446b05b0314fd82d6453772c554f2a9e23bb24af2651f34"), looks := true }, kinds := [], alts := [], laidByText := true, laidKinds := [.data], laidTests := true, laidLooks := .later }
def NoteMarksCardSaid : Prop := Claim7.holds Tryd.pinned (.plain (OpenSpec.ofChange noteMarksSpec)) noteMarksCard

/-- THE TIED CARD OF 'obollaw17.NoteEnds'. -/
def noteEndsCard : Claim7 := { stood := { row := noteEndsRow, standIns := [], harness := (true, "2725adef52b7bb5a8446b05b0314fd82d6453772c554f2a9e23bb24af2651f34"), looks := true }, kinds := [], alts := [], laidByText := true, laidKinds := [.data], laidTests := true, laidLooks := .later }
def NoteEndsCardSaid : Prop := Claim7.holds Tryd.pinned (.plain (OpenSpec.ofChange noteEndsSpec)) noteEndsCard

/-- THE TIED CARD OF 'obollaw17.NoteApart'. -/
def noteApartCard : Claim7 := { stood := { row := noteApartRow, standIns := [], harness := (true, "2725adef52b7bb5a8446b05b0314fd82d6453772c554f2a9e23bb24af2651f34"), looks := true }, kinds := [], alts := [], laidByText := true, laidKinds := [.data], laidTests := true, laidLooks := .later }
def NoteApartCardSaid : Prop := Claim7.holds Tryd.pinned (.plain (OpenSpec.ofChange noteApartSpec)) noteApartCard

/-- THE SECOND FORM's CARD OF 'obollaw17.NoteKeys'. -/
def noteKeysUptoCard : Claim7 := { stood := { row := noteKeysUptoRow, standIns := [], harness := (true, "2725adef52b7bb5a8446b05b0314fd82d6453772c554f2a9e23bb24af2651f34"), looks := true }, kinds := [], alts := [], laidByText := true, laidKinds := [.data], laidTests := true, laidLooks := .later }
def NoteKeysUptoCardSaid : Prop := Claim7.holds Tryd.pinned (.plain (OpenSpec.upto noteKeysSpec)) noteKeysUptoCard

/-- THE SECOND FORM's CARD OF 'obollaw17.NoteSeals'. -/
def noteSealsUptoCard : Claim7 := { stood := { row := noteSealsUptoRow, standIns := [], harness := (true, "2725adef52b7bb5a8446b05b0314fd82d6453772c554f2a9e23bb24af2651f34"), looks := true }, kinds := [], alts := [], laidByText := true, laidKinds := [.data], laidTests := true, laidLooks := .later }
def NoteSealsUptoCardSaid : Prop := Claim7.holds Tryd.pinned (.plain (OpenSpec.upto noteSealsSpec)) noteSealsUptoCard

/-- THE SECOND FORM's CARD OF 'obollaw17.NoteOpens'. -/
def noteOpensUptoCard : Claim7 := { stood := { row := noteOpensUptoRow, standIns := [], harness := (true, "2725adef52b7bb5a8446b05b0314fd82d6453772c554f2a9e23bb24af2651f34"), looks := true }, kinds := [], alts := [], laidByText := true, laidKinds := [.data], laidTests := true, laidLooks := .later }
def NoteOpensUptoCardSaid : Prop := Claim7.holds Tryd.pinned (.plain (OpenSpec.upto noteOpensSpec)) noteOpensUptoCard

/-- THE SECOND FORM's CARD OF 'obollaw17.NoteBack'. -/
def noteBackUptoCard : Claim7 := { stood := { row := noteBackUptoRow, standIns := [], harness := (true, "2725adef52b7bb5a8446b05b0314fd82d6453772c554f2a9e23bb24af2651f34"), looks := true }, kinds := [], alts := [], laidByText := true, laidKinds := [.data], laidTests := true, laidLooks := .later }
def NoteBackUptoCardSaid : Prop := Claim7.holds Tryd.pinned (.plain (OpenSpec.upto noteBackSpec)) noteBackUptoCard

/-- THE SECOND FORM's CARD OF 'obollaw17.NoteStays'. -/
def noteStaysUptoCard : Claim7 := { stood := { row := noteStaysUptoRow, standIns := [], harness := (true, "2725adef52b7bb5a8446b05b0314fd82d6453772c554f2a9e23bb24af2651f34"), looks := true }, kinds := [], alts := [], laidByText := true, laidKinds := [.data], laidTests := true, laidLooks := .later }
def NoteStaysUptoCardSaid : Prop := Claim7.holds Tryd.pinned (.plain (OpenSpec.upto noteStaysSpec)) noteStaysUptoCard

/-- THE SECOND FORM's CARD OF 'obollaw17.NoteMarks'. -/
def noteMarksUptoCard : Claim7 := { stood := { row := noteMarksUptoRow, standIns := [], harness := (true, "2725adef52b7bb5a8446b05b0314fd82d6453772c554f2a9e23bb24af2651f34"), looks := true }, kinds := [], alts := [], laidByText := true, laidKinds := [.data], laidTests := true, laidLooks := .later }
def NoteMarksUptoCardSaid : Prop := Claim7.holds Tryd.pinned (.plain (OpenSpec.upto noteMarksSpec)) noteMarksUptoCard

/-- THE SECOND FORM's CARD OF 'obollaw17.NoteEnds'. -/
def noteEndsUptoCard : Claim7 := { stood := { row := noteEndsUptoRow, standIns := [], harness := (true, "2725adef52b7bb5a8446b05b0314fd82d6453772c554f2a9e23bb24af2651f34"), looks := true }, kinds := [], alts := [], laidByText := true, laidKinds := [.data], laidTests := true, laidLooks := .later }
def NoteEndsUptoCardSaid : Prop := Claim7.holds Tryd.pinned (.plain (OpenSpec.upto noteEndsSpec)) noteEndsUptoCard

/-- THE SECOND FORM's CARD OF 'obollaw17.NoteApart'. -/
def noteApartUptoCard : Claim7 := { stood := { row := noteApartUptoRow, standIns := [], harness := (true, "2725adef52b7bb5a8446b05b0314fd82d6453772c554f2a9e23bb24af2651f34"), looks := true }, kinds := [], alts := [], laidByText := true, laidKinds := [.data], laidTests := true, laidLooks := .later }
def NoteApartUptoCardSaid : Prop := Claim7.holds Tryd.pinned (.plain (OpenSpec.upto noteApartSpec)) noteApartUptoCard
end Rows
end Go.Proofs.YtallfmiikjmgaaaDoor
