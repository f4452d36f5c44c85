/-
  NARROWER THAN 'FOR EVERY INPUT', by the rows' own cells (each row's printed sentence says how): NoteKeys: laid · NoteSeals: laid · NoteOpens: laid · NoteBack: laid · NoteStays: laid · NoteMarks: laid · NoteEnds: laid · NoteApart: laid.
  DERIVED. THE GIVEN ROWS OF THIS SEAT. 8 by the template 'for every input the law returns true; each argument reads behind the call as it read before'; 0 by the template 'total and deterministic' (their statements: YtallfmiikjmgaaaDoorTotals.lean).
  GIVEN WITH THE SEED: the statements are not yours to turn. If you find one false, say at which input.
  Laid BY PROGRAM, IN A SANDBOX (cutbox-rows.mjs): the forced cells as the released guide's own fill.sh prints them over the translation 3620d980a05f42d0… (all of the seat's roots in one cut). By AI agents, Wed Nov 11 2026. No macro, syntax, notation, axiom, sorry.
-/
import Derived.Test.YtallfmiikjmgaaaDoorChecked
import GoSem.Claim
import GoSem.ClaimJoined
import GoSem.ClaimMapViews
import Derived.JoinedTies
import Derived.KernelRfl
namespace Go.Proofs.YtallfmiikjmgaaaDoor
/- THE CELL 'sum', in the pinned program and in every row, IS THE sha256 OF THE DUMP (.gsa) THAT YtallfmiikjmgaaaDoorProg.lean LOADS. Nothing in Lean hashes anything: it is a label: what it is worth is what the hold of that sum in a sandbox is worth. -/
noncomputable def Tryd.pinned : Pinned := { name := "ytallfmiikjmgaaadoor", sum := "3620d980a05f42d02384436cb530512d9fa97e33b7e2bd4402eb0902591af6f4", checked := Tryd.checked }
namespace Rows
def none {H : Type} : Left H := { results := [], args := [] }

/- WHAT THE LISTED PACKAGE-LEVEL VARIABLES READ AS WHEN THE CALL BEGINS. Each datum BY PROGRAM (the guide's laid-datum.mjs) off the statement by which the dump's own 'gosem.cut.vars' lays the variable. In a bare row this is a premise. The card (YtallfmiikjmgaaaDoorCards.lean) ties it to the program's text. -/
def laid_obol_blake_rows {H : Type} : DataW H := .agg [.agg [.lit (.int .i64 0), .lit (.int .i64 1), .lit (.int .i64 2), .lit (.int .i64 3), .lit (.int .i64 4), .lit (.int .i64 5), .lit (.int .i64 6), .lit (.int .i64 7), .lit (.int .i64 8), .lit (.int .i64 9), .lit (.int .i64 10), .lit (.int .i64 11), .lit (.int .i64 12), .lit (.int .i64 13), .lit (.int .i64 14), .lit (.int .i64 15)], .agg [.lit (.int .i64 14), .lit (.int .i64 10), .lit (.int .i64 4), .lit (.int .i64 8), .lit (.int .i64 9), .lit (.int .i64 15), .lit (.int .i64 13), .lit (.int .i64 6), .lit (.int .i64 1), .lit (.int .i64 12), .lit (.int .i64 0), .lit (.int .i64 2), .lit (.int .i64 11), .lit (.int .i64 7), .lit (.int .i64 5), .lit (.int .i64 3)], .agg [.lit (.int .i64 11), .lit (.int .i64 8), .lit (.int .i64 12), .lit (.int .i64 0), .lit (.int .i64 5), .lit (.int .i64 2), .lit (.int .i64 15), .lit (.int .i64 13), .lit (.int .i64 10), .lit (.int .i64 14), .lit (.int .i64 3), .lit (.int .i64 6), .lit (.int .i64 7), .lit (.int .i64 1), .lit (.int .i64 9), .lit (.int .i64 4)], .agg [.lit (.int .i64 7), .lit (.int .i64 9), .lit (.int .i64 3), .lit (.int .i64 1), .lit (.int .i64 13), .lit (.int .i64 12), .lit (.int .i64 11), .lit (.int .i64 14), .lit (.int .i64 2), .lit (.int .i64 6), .lit (.int .i64 5), .lit (.int .i64 10), .lit (.int .i64 4), .lit (.int .i64 0), .lit (.int .i64 15), .lit (.int .i64 8)], .agg [.lit (.int .i64 9), .lit (.int .i64 0), .lit (.int .i64 5), .lit (.int .i64 7), .lit (.int .i64 2), .lit (.int .i64 4), .lit (.int .i64 10), .lit (.int .i64 15), .lit (.int .i64 14), .lit (.int .i64 1), .lit (.int .i64 11), .lit (.int .i64 12), .lit (.int .i64 6), .lit (.int .i64 8), .lit (.int .i64 3), .lit (.int .i64 13)], .agg [.lit (.int .i64 2), .lit (.int .i64 12), .lit (.int .i64 6), .lit (.int .i64 10), .lit (.int .i64 0), .lit (.int .i64 11), .lit (.int .i64 8), .lit (.int .i64 3), .lit (.int .i64 4), .lit (.int .i64 13), .lit (.int .i64 7), .lit (.int .i64 5), .lit (.int .i64 15), .lit (.int .i64 14), .lit (.int .i64 1), .lit (.int .i64 9)], .agg [.lit (.int .i64 12), .lit (.int .i64 5), .lit (.int .i64 1), .lit (.int .i64 15), .lit (.int .i64 14), .lit (.int .i64 13), .lit (.int .i64 4), .lit (.int .i64 10), .lit (.int .i64 0), .lit (.int .i64 7), .lit (.int .i64 6), .lit (.int .i64 3), .lit (.int .i64 9), .lit (.int .i64 2), .lit (.int .i64 8), .lit (.int .i64 11)], .agg [.lit (.int .i64 13), .lit (.int .i64 11), .lit (.int .i64 7), .lit (.int .i64 14), .lit (.int .i64 12), .lit (.int .i64 1), .lit (.int .i64 3), .lit (.int .i64 9), .lit (.int .i64 5), .lit (.int .i64 0), .lit (.int .i64 15), .lit (.int .i64 4), .lit (.int .i64 8), .lit (.int .i64 6), .lit (.int .i64 2), .lit (.int .i64 10)], .agg [.lit (.int .i64 6), .lit (.int .i64 15), .lit (.int .i64 14), .lit (.int .i64 9), .lit (.int .i64 11), .lit (.int .i64 3), .lit (.int .i64 0), .lit (.int .i64 8), .lit (.int .i64 12), .lit (.int .i64 2), .lit (.int .i64 13), .lit (.int .i64 7), .lit (.int .i64 1), .lit (.int .i64 4), .lit (.int .i64 10), .lit (.int .i64 5)], .agg [.lit (.int .i64 10), .lit (.int .i64 2), .lit (.int .i64 8), .lit (.int .i64 4), .lit (.int .i64 7), .lit (.int .i64 6), .lit (.int .i64 1), .lit (.int .i64 5), .lit (.int .i64 15), .lit (.int .i64 11), .lit (.int .i64 9), .lit (.int .i64 14), .lit (.int .i64 3), .lit (.int .i64 12), .lit (.int .i64 13), .lit (.int .i64 0)]]

/-- 'obollaw17.NoteKeys': WHATEVER THE INPUT: true; the input reads as it did. -/
def noteKeysSpec : ChangeSpec := { name := "noteKeys", fn := fun _ => fun
  | [d] => { results := [.lit (.bool true)], args := [d] }
  | _ => none }
def noteKeysRow : OpenClaim := { program := "ytallfmiikjmgaaadoor", sum := "3620d980a05f42d02384436cb530512d9fa97e33b7e2bd4402eb0902591af6f4", func := "obol/obollaw17.NoteKeys", spec := "noteKeys", unfollowed := true, recurses := true, named := ["math/bits.divideError", "math/bits.overflowError", "obol/blake.rows"], apart := false, laid := [("obol/blake.rows", laid_obol_blake_rows)] }
def NoteKeysSaid : Prop := noteKeysRow.holds Tryd.pinned (OpenSpec.ofChange noteKeysSpec)

/-- ITS FALSE NEIGHBOUR: 'it returns false'. Refute it at one input. -/
def noteKeysWrong : ChangeSpec := { name := "noteKeys", fn := fun _ => fun
  | [d] => { results := [.lit (.bool false)], args := [d] }
  | _ => none }
def NoteKeysWrongFalsely : Prop := noteKeysRow.holds Tryd.pinned (OpenSpec.ofChange noteKeysWrong)

/-- 'obollaw17.NoteSeals': WHATEVER THE INPUT: true; the input reads as it did. -/
def noteSealsSpec : ChangeSpec := { name := "noteSeals", fn := fun _ => fun
  | [d1, d2, d3] => { results := [.lit (.bool true)], args := [d1, d2, d3] }
  | _ => none }
def noteSealsRow : OpenClaim := { program := "ytallfmiikjmgaaadoor", sum := "3620d980a05f42d02384436cb530512d9fa97e33b7e2bd4402eb0902591af6f4", func := "obol/obollaw17.NoteSeals", spec := "noteSeals", unfollowed := true, recurses := true, named := ["math/bits.divideError", "math/bits.overflowError", "obol/blake.rows"], apart := false, laid := [("obol/blake.rows", laid_obol_blake_rows)] }
def NoteSealsSaid : Prop := noteSealsRow.holds Tryd.pinned (OpenSpec.ofChange noteSealsSpec)

/-- ITS FALSE NEIGHBOUR: 'it returns false'. Refute it at one input. -/
def noteSealsWrong : ChangeSpec := { name := "noteSeals", fn := fun _ => fun
  | [d1, d2, d3] => { results := [.lit (.bool false)], args := [d1, d2, d3] }
  | _ => none }
def NoteSealsWrongFalsely : Prop := noteSealsRow.holds Tryd.pinned (OpenSpec.ofChange noteSealsWrong)

/-- 'obollaw17.NoteOpens': WHATEVER THE INPUT: true; the input reads as it did. -/
def noteOpensSpec : ChangeSpec := { name := "noteOpens", fn := fun _ => fun
  | [d1, d2] => { results := [.lit (.bool true)], args := [d1, d2] }
  | _ => none }
def noteOpensRow : OpenClaim := { program := "ytallfmiikjmgaaadoor", sum := "3620d980a05f42d02384436cb530512d9fa97e33b7e2bd4402eb0902591af6f4", func := "obol/obollaw17.NoteOpens", spec := "noteOpens", unfollowed := true, recurses := true, named := ["math/bits.divideError", "math/bits.overflowError", "obol/blake.rows"], apart := false, laid := [("obol/blake.rows", laid_obol_blake_rows)] }
def NoteOpensSaid : Prop := noteOpensRow.holds Tryd.pinned (OpenSpec.ofChange noteOpensSpec)

/-- ITS FALSE NEIGHBOUR: 'it returns false'. Refute it at one input. -/
def noteOpensWrong : ChangeSpec := { name := "noteOpens", fn := fun _ => fun
  | [d1, d2] => { results := [.lit (.bool false)], args := [d1, d2] }
  | _ => none }
def NoteOpensWrongFalsely : Prop := noteOpensRow.holds Tryd.pinned (OpenSpec.ofChange noteOpensWrong)

/-- 'obollaw17.NoteBack': WHATEVER THE INPUT: true; the input reads as it did. -/
def noteBackSpec : ChangeSpec := { name := "noteBack", fn := fun _ => fun
  | [d1, d2, d3] => { results := [.lit (.bool true)], args := [d1, d2, d3] }
  | _ => none }
def noteBackRow : OpenClaim := { program := "ytallfmiikjmgaaadoor", sum := "3620d980a05f42d02384436cb530512d9fa97e33b7e2bd4402eb0902591af6f4", func := "obol/obollaw17.NoteBack", spec := "noteBack", unfollowed := true, recurses := true, named := ["math/bits.divideError", "math/bits.overflowError", "obol/blake.rows"], apart := false, laid := [("obol/blake.rows", laid_obol_blake_rows)] }
def NoteBackSaid : Prop := noteBackRow.holds Tryd.pinned (OpenSpec.ofChange noteBackSpec)

/-- ITS FALSE NEIGHBOUR: 'it returns false'. Refute it at one input. -/
def noteBackWrong : ChangeSpec := { name := "noteBack", fn := fun _ => fun
  | [d1, d2, d3] => { results := [.lit (.bool false)], args := [d1, d2, d3] }
  | _ => none }
def NoteBackWrongFalsely : Prop := noteBackRow.holds Tryd.pinned (OpenSpec.ofChange noteBackWrong)

/-- 'obollaw17.NoteStays': WHATEVER THE INPUT: true; the input reads as it did. -/
def noteStaysSpec : ChangeSpec := { name := "noteStays", fn := fun _ => fun
  | [d1, d2, d3, d4] => { results := [.lit (.bool true)], args := [d1, d2, d3, d4] }
  | _ => none }
def noteStaysRow : OpenClaim := { program := "ytallfmiikjmgaaadoor", sum := "3620d980a05f42d02384436cb530512d9fa97e33b7e2bd4402eb0902591af6f4", func := "obol/obollaw17.NoteStays", spec := "noteStays", unfollowed := true, recurses := true, named := ["math/bits.divideError", "math/bits.overflowError", "obol/blake.rows"], apart := false, laid := [("obol/blake.rows", laid_obol_blake_rows)] }
def NoteStaysSaid : Prop := noteStaysRow.holds Tryd.pinned (OpenSpec.ofChange noteStaysSpec)

/-- ITS FALSE NEIGHBOUR: 'it returns false'. Refute it at one input. -/
def noteStaysWrong : ChangeSpec := { name := "noteStays", fn := fun _ => fun
  | [d1, d2, d3, d4] => { results := [.lit (.bool false)], args := [d1, d2, d3, d4] }
  | _ => none }
def NoteStaysWrongFalsely : Prop := noteStaysRow.holds Tryd.pinned (OpenSpec.ofChange noteStaysWrong)

/-- 'obollaw17.NoteMarks': WHATEVER THE INPUT: true; the input reads as it did. -/
def noteMarksSpec : ChangeSpec := { name := "noteMarks", fn := fun _ => fun
  | [d] => { results := [.lit (.bool true)], args := [d] }
  | _ => none }
def noteMarksRow : OpenClaim := { program := "ytallfmiikjmgaaadoor", sum := "3620d980a05f42d02384436cb530512d9fa97e33b7e2bd4402eb0902591af6f4", func := "obol/obollaw17.NoteMarks", spec := "noteMarks", unfollowed := true, recurses := true, named := ["math/bits.divideError", "math/bits.overflowError", "obol/blake.rows"], apart := false, laid := [("obol/blake.rows", laid_obol_blake_rows)] }
def NoteMarksSaid : Prop := noteMarksRow.holds Tryd.pinned (OpenSpec.ofChange noteMarksSpec)

/-- ITS FALSE NEIGHBOUR: 'it returns false'. Refute it at one input. -/
def noteMarksWrong : ChangeSpec := { name := "noteMarks", fn := fun _ => fun
  | [d] => { results := [.lit (.bool false)], args := [d] }
  | _ => none }
def NoteMarksWrongFalsely : Prop := noteMarksRow.holds Tryd.pinned (OpenSpec.ofChange noteMarksWrong)

/-- 'obollaw17.NoteEnds': WHATEVER THE INPUT: true; the input reads as it did. -/
def noteEndsSpec : ChangeSpec := { name := "noteEnds", fn := fun _ => fun
  | [d1, d2, d3] => { results := [.lit (.bool true)], args := [d1, d2, d3] }
  | _ => none }
def noteEndsRow : OpenClaim := { program := "ytallfmiikjmgaaadoor", sum := "3620d980a05f42d02384436cb530512d9fa97e33b7e2bd4402eb0902591af6f4", func := "obol/obollaw17.NoteEnds", spec := "noteEnds", unfollowed := true, recurses := true, named := ["math/bits.divideError", "math/bits.overflowError", "obol/blake.rows"], apart := false, laid := [("obol/blake.rows", laid_obol_blake_rows)] }
def NoteEndsSaid : Prop := noteEndsRow.holds Tryd.pinned (OpenSpec.ofChange noteEndsSpec)

/-- ITS FALSE NEIGHBOUR: 'it returns false'. Refute it at one input. -/
def noteEndsWrong : ChangeSpec := { name := "noteEnds", fn := fun _ => fun
  | [d1, d2, d3] => { results := [.lit (.bool false)], args := [d1, d2, d3] }
  | _ => none }
def NoteEndsWrongFalsely : Prop := noteEndsRow.holds Tryd.pinned (OpenSpec.ofChange noteEndsWrong)

/-- 'obollaw17.NoteApart': WHATEVER THE INPUT: true; the input reads as it did. -/
def noteApartSpec : ChangeSpec := { name := "noteApart", fn := fun _ => fun
  | [d1, d2] => { results := [.lit (.bool true)], args := [d1, d2] }
  | _ => none }
def noteApartRow : OpenClaim := { program := "ytallfmiikjmgaaadoor", sum := "3620d980a05f42d02384436cb530512d9fa97e33b7e2bd4402eb0902591af6f4", func := "obol/obollaw17.NoteApart", spec := "noteApart", unfollowed := true, recurses := true, named := ["math/bits.divideError", "math/bits.overflowError", "obol/blake.rows"], apart := false, laid := [("obol/blake.rows", laid_obol_blake_rows)] }
def NoteApartSaid : Prop := noteApartRow.holds Tryd.pinned (OpenSpec.ofChange noteApartSpec)

/-- ITS FALSE NEIGHBOUR: 'it returns false'. Refute it at one input. -/
def noteApartWrong : ChangeSpec := { name := "noteApart", fn := fun _ => fun
  | [d1, d2] => { results := [.lit (.bool false)], args := [d1, d2] }
  | _ => none }
def NoteApartWrongFalsely : Prop := noteApartRow.holds Tryd.pinned (OpenSpec.ofChange noteApartWrong)

/- THE SECOND FORM. 'bulk': how many values and letters a reading holds, each counted each time it is reached (what is shared counts as often as it is met; a slice's spare places count too). A statement '..UptoSaid' is the law's where the arguments, and the package variables that the reading takes, are together of bulk at most 1048576: NARROWER than '..Said'. Prove '..Said' where nothing that the law and all that it calls make is longer than what came in: it says more and counts as full. Else prove '..UptoSaid'. A law counts once. -/
mutual
def uptoBulk {H : Type} : DataW H → Nat
  | .lit (.string bytes) => bytes.length + 1
  | .lit _ => 1
  | .nil => 1
  | .ptr d => uptoBulk d + 1
  | .slice elems spare => uptoBulkAll elems + uptoBulkAll spare + 1
  | .agg parts => uptoBulkAll parts + 1
  | .iface _ d => uptoBulk d + 1
  | .map entries => uptoBulkEntries entries + 1
  | .held _ => 1
def uptoBulkAll {H : Type} : List (DataW H) → Nat
  | [] => 0
  | d :: r => uptoBulk d + uptoBulkAll r
def uptoBulkEntries {H : Type} : List (Lit × DataW H) → Nat
  | [] => 0
  | x :: r => uptoBulkEntry x + uptoBulkEntries r
def uptoBulkEntry {H : Type} : Lit × DataW H → Nat
  | (.string bytes, d) => bytes.length + uptoBulk d + 1
  | (_, d) => uptoBulk d + 1
 end
def uptoSmall : (H : Type) → List (DataW H) → Bool := fun _ ds => decide (uptoBulkAll ds ≤ 1048576)
def OpenSpec.upto (s : _root_.Go.ChangeSpec) : _root_.Go.OpenSpec := { _root_.Go.OpenSpec.ofChange s with cond := some uptoSmall }

/-- 'obollaw17.NoteKeys', WHERE WHAT IT READS IS OF BULK AT MOST 1048576: true; the input reads as it did. -/
def noteKeysUptoRow : OpenClaim := { program := "ytallfmiikjmgaaadoor", sum := "3620d980a05f42d02384436cb530512d9fa97e33b7e2bd4402eb0902591af6f4", func := "obol/obollaw17.NoteKeys", spec := "noteKeys", unfollowed := true, recurses := true, named := ["math/bits.divideError", "math/bits.overflowError", "obol/blake.rows"], apart := false, laid := [("obol/blake.rows", laid_obol_blake_rows)], narrowed := true }
def NoteKeysUptoSaid : Prop := noteKeysUptoRow.holds Tryd.pinned (OpenSpec.upto noteKeysSpec)

/-- 'obollaw17.NoteSeals', WHERE WHAT IT READS IS OF BULK AT MOST 1048576: true; the input reads as it did. -/
def noteSealsUptoRow : OpenClaim := { program := "ytallfmiikjmgaaadoor", sum := "3620d980a05f42d02384436cb530512d9fa97e33b7e2bd4402eb0902591af6f4", func := "obol/obollaw17.NoteSeals", spec := "noteSeals", unfollowed := true, recurses := true, named := ["math/bits.divideError", "math/bits.overflowError", "obol/blake.rows"], apart := false, laid := [("obol/blake.rows", laid_obol_blake_rows)], narrowed := true }
def NoteSealsUptoSaid : Prop := noteSealsUptoRow.holds Tryd.pinned (OpenSpec.upto noteSealsSpec)

/-- 'obollaw17.NoteOpens', WHERE WHAT IT READS IS OF BULK AT MOST 1048576: true; the input reads as it did. -/
def noteOpensUptoRow : OpenClaim := { program := "ytallfmiikjmgaaadoor", sum := "3620d980a05f42d02384436cb530512d9fa97e33b7e2bd4402eb0902591af6f4", func := "obol/obollaw17.NoteOpens", spec := "noteOpens", unfollowed := true, recurses := true, named := ["math/bits.divideError", "math/bits.overflowError", "obol/blake.rows"], apart := false, laid := [("obol/blake.rows", laid_obol_blake_rows)], narrowed := true }
def NoteOpensUptoSaid : Prop := noteOpensUptoRow.holds Tryd.pinned (OpenSpec.upto noteOpensSpec)

/-- 'obollaw17.NoteBack', WHERE WHAT IT READS IS OF BULK AT MOST 1048576: true; the input reads as it did. -/
def noteBackUptoRow : OpenClaim := { program := "ytallfmiikjmgaaadoor", sum := "3620d980a05f42d02384436cb530512d9fa97e33b7e2bd4402eb0902591af6f4", func := "obol/obollaw17.NoteBack", spec := "noteBack", unfollowed := true, recurses := true, named := ["math/bits.divideError", "math/bits.overflowError", "obol/blake.rows"], apart := false, laid := [("obol/blake.rows", laid_obol_blake_rows)], narrowed := true }
def NoteBackUptoSaid : Prop := noteBackUptoRow.holds Tryd.pinned (OpenSpec.upto noteBackSpec)

/-- 'obollaw17.NoteStays', WHERE WHAT IT READS IS OF BULK AT MOST 1048576: true; the input reads as it did. -/
def noteStaysUptoRow : OpenClaim := { program := "ytallfmiikjmgaaadoor", sum := "3620d980a05f42d02384436cb530512d9fa97e33b7e2bd4402eb0902591af6f4", func := "obol/obollaw17.NoteStays", spec := "noteStays", unfollowed := true, recurses := true, named := ["math/bits.divideError", "math/bits.overflowError", "obol/blake.rows"], apart := false, laid := [("obol/blake.rows", laid_obol_blake_rows)], narrowed := true }
def NoteStaysUptoSaid : Prop := noteStaysUptoRow.holds Tryd.pinned (OpenSpec.upto noteStaysSpec)

/-- 'obollaw17.NoteMarks', WHERE WHAT IT READS IS OF BULK AT MOST 1048576: true; the input reads as it did. -/
def noteMarksUptoRow : OpenClaim := { program := "ytallfmiikjmgaaadoor", sum := "3620d980a05f42d02384436cb530512d9fa97e33b7e2bd4402eb0902591af6f4", func := "obol/obollaw17.NoteMarks", spec := "noteMarks", unfollowed := true, recurses := true, named := ["math/bits.divideError", "math/bits.overflowError", "obol/blake.rows"], apart := false, laid := [("obol/blake.rows", laid_obol_blake_rows)], narrowed := true }
def NoteMarksUptoSaid : Prop := noteMarksUptoRow.holds Tryd.pinned (OpenSpec.upto noteMarksSpec)

/-- 'obollaw17.NoteEnds', WHERE WHAT IT READS IS OF BULK AT MOST 1048576: true; the input reads as it did. -/
def noteEndsUptoRow : OpenClaim := { program := "ytallfmiikjmgaaadoor", sum := "3620d980a05f42d02384436cb530512d9fa97e33b7e2bd4402eb0902591af6f4", func := "obol/obollaw17.NoteEnds", spec := "noteEnds", unfollowed := true, recurses := true, named := ["math/bits.divideError", "math/bits.overflowError", "obol/blake.rows"], apart := false, laid := [("obol/blake.rows", laid_obol_blake_rows)], narrowed := true }
def NoteEndsUptoSaid : Prop := noteEndsUptoRow.holds Tryd.pinned (OpenSpec.upto noteEndsSpec)

/-- 'obollaw17.NoteApart', WHERE WHAT IT READS IS OF BULK AT MOST 1048576: true; the input reads as it did. -/
def noteApartUptoRow : OpenClaim := { program := "ytallfmiikjmgaaadoor", sum := "3620d980a05f42d02384436cb530512d9fa97e33b7e2bd4402eb0902591af6f4", func := "obol/obollaw17.NoteApart", spec := "noteApart", unfollowed := true, recurses := true, named := ["math/bits.divideError", "math/bits.overflowError", "obol/blake.rows"], apart := false, laid := [("obol/blake.rows", laid_obol_blake_rows)], narrowed := true }
def NoteApartUptoSaid : Prop := noteApartUptoRow.holds Tryd.pinned (OpenSpec.upto noteApartSpec)

end Rows
end Go.Proofs.YtallfmiikjmgaaaDoor
