/-
  NARROWER THAN 'FOR EVERY INPUT', by the rows' own cells (each row's printed sentence says how): BlakeSums: laid · BlakeNumbers: laid · SchnorrPoints: laid · SchnorrSigns: laid · SchnorrVerifies: laid · SchnorrStays: laid · SchnorrTurns: laid · SchnorrHolds: laid · PedersenCommits: laid · PedersenAdds: laid · PedersenTwo: laid · PedersenStays: laid.
  DERIVED. THE GIVEN ROWS OF THIS SEAT. 12 by the template 'for every input the law returns true; each argument reads behind the call as it read before'; 0 by the template 'total and deterministic' (their statements: YtiffendfojhapaaDoorTotals.lean).
  GIVEN WITH THE SEED: the statements are not yours to turn. If you find one false, say at which input.
  Laid BY PROGRAM, IN A SANDBOX (cutbox-rows.mjs): the forced cells as the released guide's own fill.sh prints them over the translation d95e282101ce23bd… (all of the seat's roots in one cut). By AI agents, Wed Nov 11 2026. No macro, syntax, notation, axiom, sorry.
-/
import Derived.Test.YtiffendfojhapaaDoorChecked
import GoSem.Claim
import GoSem.ClaimJoined
import GoSem.ClaimMapViews
import Derived.JoinedTies
import Derived.KernelRfl
namespace Go.Proofs.YtiffendfojhapaaDoor
/- THE CELL 'sum', in the pinned program and in every row, IS THE sha256 OF THE DUMP (.gsa) THAT YtiffendfojhapaaDoorProg.lean LOADS. Nothing in Lean hashes anything: it is a label: what it is worth is what the hold of that sum in a sandbox is worth. -/
noncomputable def Tryd.pinned : Pinned := { name := "ytiffendfojhapaadoor", sum := "d95e282101ce23bd17fa9f099a253dffc40f99ed6c72ffd7f830b4b9d3063875", checked := Tryd.checked }
namespace Rows
def none {H : Type} : Left H := { results := [], args := [] }

/- WHAT THE LISTED PACKAGE-LEVEL VARIABLES READ AS WHEN THE CALL BEGINS. Each datum BY PROGRAM (the guide's laid-datum.mjs) off the statement by which the dump's own 'gosem.cut.vars' lays the variable. In a bare row this is a premise. The card (YtiffendfojhapaaDoorCards.lean) ties it to the program's text. -/
def laid_obol_blake_rows {H : Type} : DataW H := .agg [.agg [.lit (.int .i64 0), .lit (.int .i64 1), .lit (.int .i64 2), .lit (.int .i64 3), .lit (.int .i64 4), .lit (.int .i64 5), .lit (.int .i64 6), .lit (.int .i64 7), .lit (.int .i64 8), .lit (.int .i64 9), .lit (.int .i64 10), .lit (.int .i64 11), .lit (.int .i64 12), .lit (.int .i64 13), .lit (.int .i64 14), .lit (.int .i64 15)], .agg [.lit (.int .i64 14), .lit (.int .i64 10), .lit (.int .i64 4), .lit (.int .i64 8), .lit (.int .i64 9), .lit (.int .i64 15), .lit (.int .i64 13), .lit (.int .i64 6), .lit (.int .i64 1), .lit (.int .i64 12), .lit (.int .i64 0), .lit (.int .i64 2), .lit (.int .i64 11), .lit (.int .i64 7), .lit (.int .i64 5), .lit (.int .i64 3)], .agg [.lit (.int .i64 11), .lit (.int .i64 8), .lit (.int .i64 12), .lit (.int .i64 0), .lit (.int .i64 5), .lit (.int .i64 2), .lit (.int .i64 15), .lit (.int .i64 13), .lit (.int .i64 10), .lit (.int .i64 14), .lit (.int .i64 3), .lit (.int .i64 6), .lit (.int .i64 7), .lit (.int .i64 1), .lit (.int .i64 9), .lit (.int .i64 4)], .agg [.lit (.int .i64 7), .lit (.int .i64 9), .lit (.int .i64 3), .lit (.int .i64 1), .lit (.int .i64 13), .lit (.int .i64 12), .lit (.int .i64 11), .lit (.int .i64 14), .lit (.int .i64 2), .lit (.int .i64 6), .lit (.int .i64 5), .lit (.int .i64 10), .lit (.int .i64 4), .lit (.int .i64 0), .lit (.int .i64 15), .lit (.int .i64 8)], .agg [.lit (.int .i64 9), .lit (.int .i64 0), .lit (.int .i64 5), .lit (.int .i64 7), .lit (.int .i64 2), .lit (.int .i64 4), .lit (.int .i64 10), .lit (.int .i64 15), .lit (.int .i64 14), .lit (.int .i64 1), .lit (.int .i64 11), .lit (.int .i64 12), .lit (.int .i64 6), .lit (.int .i64 8), .lit (.int .i64 3), .lit (.int .i64 13)], .agg [.lit (.int .i64 2), .lit (.int .i64 12), .lit (.int .i64 6), .lit (.int .i64 10), .lit (.int .i64 0), .lit (.int .i64 11), .lit (.int .i64 8), .lit (.int .i64 3), .lit (.int .i64 4), .lit (.int .i64 13), .lit (.int .i64 7), .lit (.int .i64 5), .lit (.int .i64 15), .lit (.int .i64 14), .lit (.int .i64 1), .lit (.int .i64 9)], .agg [.lit (.int .i64 12), .lit (.int .i64 5), .lit (.int .i64 1), .lit (.int .i64 15), .lit (.int .i64 14), .lit (.int .i64 13), .lit (.int .i64 4), .lit (.int .i64 10), .lit (.int .i64 0), .lit (.int .i64 7), .lit (.int .i64 6), .lit (.int .i64 3), .lit (.int .i64 9), .lit (.int .i64 2), .lit (.int .i64 8), .lit (.int .i64 11)], .agg [.lit (.int .i64 13), .lit (.int .i64 11), .lit (.int .i64 7), .lit (.int .i64 14), .lit (.int .i64 12), .lit (.int .i64 1), .lit (.int .i64 3), .lit (.int .i64 9), .lit (.int .i64 5), .lit (.int .i64 0), .lit (.int .i64 15), .lit (.int .i64 4), .lit (.int .i64 8), .lit (.int .i64 6), .lit (.int .i64 2), .lit (.int .i64 10)], .agg [.lit (.int .i64 6), .lit (.int .i64 15), .lit (.int .i64 14), .lit (.int .i64 9), .lit (.int .i64 11), .lit (.int .i64 3), .lit (.int .i64 0), .lit (.int .i64 8), .lit (.int .i64 12), .lit (.int .i64 2), .lit (.int .i64 13), .lit (.int .i64 7), .lit (.int .i64 1), .lit (.int .i64 4), .lit (.int .i64 10), .lit (.int .i64 5)], .agg [.lit (.int .i64 10), .lit (.int .i64 2), .lit (.int .i64 8), .lit (.int .i64 4), .lit (.int .i64 7), .lit (.int .i64 6), .lit (.int .i64 1), .lit (.int .i64 5), .lit (.int .i64 15), .lit (.int .i64 11), .lit (.int .i64 9), .lit (.int .i64 14), .lit (.int .i64 3), .lit (.int .i64 12), .lit (.int .i64 13), .lit (.int .i64 0)]]

/-- 'obollaw05.BlakeSums': WHATEVER THE INPUT: true; the input reads as it did. -/
def blakeSumsSpec : ChangeSpec := { name := "blakeSums", fn := fun _ => fun
  | [d1, d2] => { results := [.lit (.bool true)], args := [d1, d2] }
  | _ => none }
def blakeSumsRow : OpenClaim := { program := "ytiffendfojhapaadoor", sum := "d95e282101ce23bd17fa9f099a253dffc40f99ed6c72ffd7f830b4b9d3063875", func := "obol/obollaw05.BlakeSums", spec := "blakeSums", named := ["obol/blake.rows"], apart := false, laid := [("obol/blake.rows", laid_obol_blake_rows)] }
def BlakeSumsSaid : Prop := blakeSumsRow.holds Tryd.pinned (OpenSpec.ofChange blakeSumsSpec)

/-- ITS FALSE NEIGHBOUR: 'it returns false'. Refute it at one input. -/
def blakeSumsWrong : ChangeSpec := { name := "blakeSums", fn := fun _ => fun
  | [d1, d2] => { results := [.lit (.bool false)], args := [d1, d2] }
  | _ => none }
def BlakeSumsWrongFalsely : Prop := blakeSumsRow.holds Tryd.pinned (OpenSpec.ofChange blakeSumsWrong)

/-- 'obollaw05.BlakeNumbers': WHATEVER THE INPUT: true; the input reads as it did. -/
def blakeNumbersSpec : ChangeSpec := { name := "blakeNumbers", fn := fun _ => fun
  | [d1, d2, d3] => { results := [.lit (.bool true)], args := [d1, d2, d3] }
  | _ => none }
def blakeNumbersRow : OpenClaim := { program := "ytiffendfojhapaadoor", sum := "d95e282101ce23bd17fa9f099a253dffc40f99ed6c72ffd7f830b4b9d3063875", func := "obol/obollaw05.BlakeNumbers", spec := "blakeNumbers", named := ["obol/blake.rows"], apart := false, laid := [("obol/blake.rows", laid_obol_blake_rows)] }
def BlakeNumbersSaid : Prop := blakeNumbersRow.holds Tryd.pinned (OpenSpec.ofChange blakeNumbersSpec)

/-- ITS FALSE NEIGHBOUR: 'it returns false'. Refute it at one input. -/
def blakeNumbersWrong : ChangeSpec := { name := "blakeNumbers", fn := fun _ => fun
  | [d1, d2, d3] => { results := [.lit (.bool false)], args := [d1, d2, d3] }
  | _ => none }
def BlakeNumbersWrongFalsely : Prop := blakeNumbersRow.holds Tryd.pinned (OpenSpec.ofChange blakeNumbersWrong)

/-- 'obollaw09.SchnorrPoints': WHATEVER THE INPUT: true; the input reads as it did. -/
def schnorrPointsSpec : ChangeSpec := { name := "schnorrPoints", fn := fun _ => fun
  | [d] => { results := [.lit (.bool true)], args := [d] }
  | _ => none }
def schnorrPointsRow : OpenClaim := { program := "ytiffendfojhapaadoor", sum := "d95e282101ce23bd17fa9f099a253dffc40f99ed6c72ffd7f830b4b9d3063875", func := "obol/obollaw09.SchnorrPoints", spec := "schnorrPoints", named := ["math/bits.divideError", "math/bits.overflowError", "obol/blake.rows"], apart := false, laid := [("obol/blake.rows", laid_obol_blake_rows)] }
def SchnorrPointsSaid : Prop := schnorrPointsRow.holds Tryd.pinned (OpenSpec.ofChange schnorrPointsSpec)

/-- ITS FALSE NEIGHBOUR: 'it returns false'. Refute it at one input. -/
def schnorrPointsWrong : ChangeSpec := { name := "schnorrPoints", fn := fun _ => fun
  | [d] => { results := [.lit (.bool false)], args := [d] }
  | _ => none }
def SchnorrPointsWrongFalsely : Prop := schnorrPointsRow.holds Tryd.pinned (OpenSpec.ofChange schnorrPointsWrong)

/-- 'obollaw09.SchnorrSigns': WHATEVER THE INPUT: true; the input reads as it did. -/
def schnorrSignsSpec : ChangeSpec := { name := "schnorrSigns", fn := fun _ => fun
  | [d1, d2, d3] => { results := [.lit (.bool true)], args := [d1, d2, d3] }
  | _ => none }
def schnorrSignsRow : OpenClaim := { program := "ytiffendfojhapaadoor", sum := "d95e282101ce23bd17fa9f099a253dffc40f99ed6c72ffd7f830b4b9d3063875", func := "obol/obollaw09.SchnorrSigns", spec := "schnorrSigns", named := ["math/bits.divideError", "math/bits.overflowError", "obol/blake.rows"], apart := false, laid := [("obol/blake.rows", laid_obol_blake_rows)] }
def SchnorrSignsSaid : Prop := schnorrSignsRow.holds Tryd.pinned (OpenSpec.ofChange schnorrSignsSpec)

/-- ITS FALSE NEIGHBOUR: 'it returns false'. Refute it at one input. -/
def schnorrSignsWrong : ChangeSpec := { name := "schnorrSigns", fn := fun _ => fun
  | [d1, d2, d3] => { results := [.lit (.bool false)], args := [d1, d2, d3] }
  | _ => none }
def SchnorrSignsWrongFalsely : Prop := schnorrSignsRow.holds Tryd.pinned (OpenSpec.ofChange schnorrSignsWrong)

/-- 'obollaw09.SchnorrVerifies': WHATEVER THE INPUT: true; the input reads as it did. -/
def schnorrVerifiesSpec : ChangeSpec := { name := "schnorrVerifies", fn := fun _ => fun
  | [d1, d2, d3] => { results := [.lit (.bool true)], args := [d1, d2, d3] }
  | _ => none }
def schnorrVerifiesRow : OpenClaim := { program := "ytiffendfojhapaadoor", sum := "d95e282101ce23bd17fa9f099a253dffc40f99ed6c72ffd7f830b4b9d3063875", func := "obol/obollaw09.SchnorrVerifies", spec := "schnorrVerifies", named := ["math/bits.divideError", "math/bits.overflowError", "obol/blake.rows"], apart := false, laid := [("obol/blake.rows", laid_obol_blake_rows)] }
def SchnorrVerifiesSaid : Prop := schnorrVerifiesRow.holds Tryd.pinned (OpenSpec.ofChange schnorrVerifiesSpec)

/-- ITS FALSE NEIGHBOUR: 'it returns false'. Refute it at one input. -/
def schnorrVerifiesWrong : ChangeSpec := { name := "schnorrVerifies", fn := fun _ => fun
  | [d1, d2, d3] => { results := [.lit (.bool false)], args := [d1, d2, d3] }
  | _ => none }
def SchnorrVerifiesWrongFalsely : Prop := schnorrVerifiesRow.holds Tryd.pinned (OpenSpec.ofChange schnorrVerifiesWrong)

/-- 'obollaw09.SchnorrStays': WHATEVER THE INPUT: true; the input reads as it did. -/
def schnorrStaysSpec : ChangeSpec := { name := "schnorrStays", fn := fun _ => fun
  | [d1, d2, d3] => { results := [.lit (.bool true)], args := [d1, d2, d3] }
  | _ => none }
def schnorrStaysRow : OpenClaim := { program := "ytiffendfojhapaadoor", sum := "d95e282101ce23bd17fa9f099a253dffc40f99ed6c72ffd7f830b4b9d3063875", func := "obol/obollaw09.SchnorrStays", spec := "schnorrStays", named := ["math/bits.divideError", "math/bits.overflowError", "obol/blake.rows"], apart := false, laid := [("obol/blake.rows", laid_obol_blake_rows)] }
def SchnorrStaysSaid : Prop := schnorrStaysRow.holds Tryd.pinned (OpenSpec.ofChange schnorrStaysSpec)

/-- ITS FALSE NEIGHBOUR: 'it returns false'. Refute it at one input. -/
def schnorrStaysWrong : ChangeSpec := { name := "schnorrStays", fn := fun _ => fun
  | [d1, d2, d3] => { results := [.lit (.bool false)], args := [d1, d2, d3] }
  | _ => none }
def SchnorrStaysWrongFalsely : Prop := schnorrStaysRow.holds Tryd.pinned (OpenSpec.ofChange schnorrStaysWrong)

/-- 'obollaw09.SchnorrTurns': WHATEVER THE INPUT: true; the input reads as it did. -/
def schnorrTurnsSpec : ChangeSpec := { name := "schnorrTurns", fn := fun _ => fun
  | [d1, d2, d3] => { results := [.lit (.bool true)], args := [d1, d2, d3] }
  | _ => none }
def schnorrTurnsRow : OpenClaim := { program := "ytiffendfojhapaadoor", sum := "d95e282101ce23bd17fa9f099a253dffc40f99ed6c72ffd7f830b4b9d3063875", func := "obol/obollaw09.SchnorrTurns", spec := "schnorrTurns", named := ["math/bits.divideError", "math/bits.overflowError", "obol/blake.rows"], apart := false, laid := [("obol/blake.rows", laid_obol_blake_rows)] }
def SchnorrTurnsSaid : Prop := schnorrTurnsRow.holds Tryd.pinned (OpenSpec.ofChange schnorrTurnsSpec)

/-- ITS FALSE NEIGHBOUR: 'it returns false'. Refute it at one input. -/
def schnorrTurnsWrong : ChangeSpec := { name := "schnorrTurns", fn := fun _ => fun
  | [d1, d2, d3] => { results := [.lit (.bool false)], args := [d1, d2, d3] }
  | _ => none }
def SchnorrTurnsWrongFalsely : Prop := schnorrTurnsRow.holds Tryd.pinned (OpenSpec.ofChange schnorrTurnsWrong)

/-- 'obollaw09.SchnorrHolds': WHATEVER THE INPUT: true; the input reads as it did. -/
def schnorrHoldsSpec : ChangeSpec := { name := "schnorrHolds", fn := fun _ => fun
  | [d1, d2, d3, d4, d5] => { results := [.lit (.bool true)], args := [d1, d2, d3, d4, d5] }
  | _ => none }
def schnorrHoldsRow : OpenClaim := { program := "ytiffendfojhapaadoor", sum := "d95e282101ce23bd17fa9f099a253dffc40f99ed6c72ffd7f830b4b9d3063875", func := "obol/obollaw09.SchnorrHolds", spec := "schnorrHolds", named := ["math/bits.divideError", "math/bits.overflowError", "obol/blake.rows"], apart := false, laid := [("obol/blake.rows", laid_obol_blake_rows)] }
def SchnorrHoldsSaid : Prop := schnorrHoldsRow.holds Tryd.pinned (OpenSpec.ofChange schnorrHoldsSpec)

/-- ITS FALSE NEIGHBOUR: 'it returns false'. Refute it at one input. -/
def schnorrHoldsWrong : ChangeSpec := { name := "schnorrHolds", fn := fun _ => fun
  | [d1, d2, d3, d4, d5] => { results := [.lit (.bool false)], args := [d1, d2, d3, d4, d5] }
  | _ => none }
def SchnorrHoldsWrongFalsely : Prop := schnorrHoldsRow.holds Tryd.pinned (OpenSpec.ofChange schnorrHoldsWrong)

/-- 'obollaw08.PedersenCommits': WHATEVER THE INPUT: true; the input reads as it did. -/
def pedersenCommitsSpec : ChangeSpec := { name := "pedersenCommits", fn := fun _ => fun
  | [d1, d2, d3] => { results := [.lit (.bool true)], args := [d1, d2, d3] }
  | _ => none }
def pedersenCommitsRow : OpenClaim := { program := "ytiffendfojhapaadoor", sum := "d95e282101ce23bd17fa9f099a253dffc40f99ed6c72ffd7f830b4b9d3063875", func := "obol/obollaw08.PedersenCommits", spec := "pedersenCommits", named := ["obol/blake.rows", "math/bits.divideError", "math/bits.overflowError"], apart := false, laid := [("obol/blake.rows", laid_obol_blake_rows)] }
def PedersenCommitsSaid : Prop := pedersenCommitsRow.holds Tryd.pinned (OpenSpec.ofChange pedersenCommitsSpec)

/-- ITS FALSE NEIGHBOUR: 'it returns false'. Refute it at one input. -/
def pedersenCommitsWrong : ChangeSpec := { name := "pedersenCommits", fn := fun _ => fun
  | [d1, d2, d3] => { results := [.lit (.bool false)], args := [d1, d2, d3] }
  | _ => none }
def PedersenCommitsWrongFalsely : Prop := pedersenCommitsRow.holds Tryd.pinned (OpenSpec.ofChange pedersenCommitsWrong)

/-- 'obollaw08.PedersenAdds': WHATEVER THE INPUT: true; the input reads as it did. -/
def pedersenAddsSpec : ChangeSpec := { name := "pedersenAdds", fn := fun _ => fun
  | [d1, d2, d3, d4] => { results := [.lit (.bool true)], args := [d1, d2, d3, d4] }
  | _ => none }
def pedersenAddsRow : OpenClaim := { program := "ytiffendfojhapaadoor", sum := "d95e282101ce23bd17fa9f099a253dffc40f99ed6c72ffd7f830b4b9d3063875", func := "obol/obollaw08.PedersenAdds", spec := "pedersenAdds", named := ["obol/blake.rows", "math/bits.divideError", "math/bits.overflowError"], apart := false, laid := [("obol/blake.rows", laid_obol_blake_rows)] }
def PedersenAddsSaid : Prop := pedersenAddsRow.holds Tryd.pinned (OpenSpec.ofChange pedersenAddsSpec)

/-- ITS FALSE NEIGHBOUR: 'it returns false'. Refute it at one input. -/
def pedersenAddsWrong : ChangeSpec := { name := "pedersenAdds", fn := fun _ => fun
  | [d1, d2, d3, d4] => { results := [.lit (.bool false)], args := [d1, d2, d3, d4] }
  | _ => none }
def PedersenAddsWrongFalsely : Prop := pedersenAddsRow.holds Tryd.pinned (OpenSpec.ofChange pedersenAddsWrong)

/-- 'obollaw08.PedersenTwo': WHATEVER THE INPUT: true; the input reads as it did. -/
def pedersenTwoSpec : ChangeSpec := { name := "pedersenTwo", fn := fun _ => fun
  | [d1, d2, d3, d4] => { results := [.lit (.bool true)], args := [d1, d2, d3, d4] }
  | _ => none }
def pedersenTwoRow : OpenClaim := { program := "ytiffendfojhapaadoor", sum := "d95e282101ce23bd17fa9f099a253dffc40f99ed6c72ffd7f830b4b9d3063875", func := "obol/obollaw08.PedersenTwo", spec := "pedersenTwo", named := ["obol/blake.rows", "math/bits.divideError", "math/bits.overflowError"], apart := false, laid := [("obol/blake.rows", laid_obol_blake_rows)] }
def PedersenTwoSaid : Prop := pedersenTwoRow.holds Tryd.pinned (OpenSpec.ofChange pedersenTwoSpec)

/-- ITS FALSE NEIGHBOUR: 'it returns false'. Refute it at one input. -/
def pedersenTwoWrong : ChangeSpec := { name := "pedersenTwo", fn := fun _ => fun
  | [d1, d2, d3, d4] => { results := [.lit (.bool false)], args := [d1, d2, d3, d4] }
  | _ => none }
def PedersenTwoWrongFalsely : Prop := pedersenTwoRow.holds Tryd.pinned (OpenSpec.ofChange pedersenTwoWrong)

/-- 'obollaw08.PedersenStays': WHATEVER THE INPUT: true; the input reads as it did. -/
def pedersenStaysSpec : ChangeSpec := { name := "pedersenStays", fn := fun _ => fun
  | [d1, d2] => { results := [.lit (.bool true)], args := [d1, d2] }
  | _ => none }
def pedersenStaysRow : OpenClaim := { program := "ytiffendfojhapaadoor", sum := "d95e282101ce23bd17fa9f099a253dffc40f99ed6c72ffd7f830b4b9d3063875", func := "obol/obollaw08.PedersenStays", spec := "pedersenStays", named := ["obol/blake.rows", "math/bits.divideError", "math/bits.overflowError"], apart := false, laid := [("obol/blake.rows", laid_obol_blake_rows)] }
def PedersenStaysSaid : Prop := pedersenStaysRow.holds Tryd.pinned (OpenSpec.ofChange pedersenStaysSpec)

/-- ITS FALSE NEIGHBOUR: 'it returns false'. Refute it at one input. -/
def pedersenStaysWrong : ChangeSpec := { name := "pedersenStays", fn := fun _ => fun
  | [d1, d2] => { results := [.lit (.bool false)], args := [d1, d2] }
  | _ => none }
def PedersenStaysWrongFalsely : Prop := pedersenStaysRow.holds Tryd.pinned (OpenSpec.ofChange pedersenStaysWrong)

/- THE SECOND FORM. 'bulk': how many values and letters a reading holds, each counted each time it is reached (what is shared counts as often as it is met; a slice's spare places count too). A statement '..UptoSaid' is the law's where the arguments, and the package variables that the reading takes, are together of bulk at most 1048576: NARROWER than '..Said'. Prove '..Said' where nothing that the law and all that it calls make is longer than what came in: it says more and counts as full. Else prove '..UptoSaid'. A law counts once. -/
mutual
def uptoBulk {H : Type} : DataW H → Nat
  | .lit (.string bytes) => bytes.length + 1
  | .lit _ => 1
  | .nil => 1
  | .ptr d => uptoBulk d + 1
  | .slice elems spare => uptoBulkAll elems + uptoBulkAll spare + 1
  | .agg parts => uptoBulkAll parts + 1
  | .iface _ d => uptoBulk d + 1
  | .map entries => uptoBulkEntries entries + 1
  | .held _ => 1
def uptoBulkAll {H : Type} : List (DataW H) → Nat
  | [] => 0
  | d :: r => uptoBulk d + uptoBulkAll r
def uptoBulkEntries {H : Type} : List (Lit × DataW H) → Nat
  | [] => 0
  | x :: r => uptoBulkEntry x + uptoBulkEntries r
def uptoBulkEntry {H : Type} : Lit × DataW H → Nat
  | (.string bytes, d) => bytes.length + uptoBulk d + 1
  | (_, d) => uptoBulk d + 1
 end
def uptoSmall : (H : Type) → List (DataW H) → Bool := fun _ ds => decide (uptoBulkAll ds ≤ 1048576)
def OpenSpec.upto (s : _root_.Go.ChangeSpec) : _root_.Go.OpenSpec := { _root_.Go.OpenSpec.ofChange s with cond := some uptoSmall }

/-- 'obollaw05.BlakeSums', WHERE WHAT IT READS IS OF BULK AT MOST 1048576: true; the input reads as it did. -/
def blakeSumsUptoRow : OpenClaim := { program := "ytiffendfojhapaadoor", sum := "d95e282101ce23bd17fa9f099a253dffc40f99ed6c72ffd7f830b4b9d3063875", func := "obol/obollaw05.BlakeSums", spec := "blakeSums", named := ["obol/blake.rows"], apart := false, laid := [("obol/blake.rows", laid_obol_blake_rows)], narrowed := true }
def BlakeSumsUptoSaid : Prop := blakeSumsUptoRow.holds Tryd.pinned (OpenSpec.upto blakeSumsSpec)

/-- 'obollaw05.BlakeNumbers', WHERE WHAT IT READS IS OF BULK AT MOST 1048576: true; the input reads as it did. -/
def blakeNumbersUptoRow : OpenClaim := { program := "ytiffendfojhapaadoor", sum := "d95e282101ce23bd17fa9f099a253dffc40f99ed6c72ffd7f830b4b9d3063875", func := "obol/obollaw05.BlakeNumbers", spec := "blakeNumbers", named := ["obol/blake.rows"], apart := false, laid := [("obol/blake.rows", laid_obol_blake_rows)], narrowed := true }
def BlakeNumbersUptoSaid : Prop := blakeNumbersUptoRow.holds Tryd.pinned (OpenSpec.upto blakeNumbersSpec)

/-- 'obollaw09.SchnorrPoints', WHERE WHAT IT READS IS OF BULK AT MOST 1048576: true; the input reads as it did. -/
def schnorrPointsUptoRow : OpenClaim := { program := "ytiffendfojhapaadoor", sum := "d95e282101ce23bd17fa9f099a253dffc40f99ed6c72ffd7f830b4b9d3063875", func := "obol/obollaw09.SchnorrPoints", spec := "schnorrPoints", named := ["math/bits.divideError", "math/bits.overflowError", "obol/blake.rows"], apart := false, laid := [("obol/blake.rows", laid_obol_blake_rows)], narrowed := true }
def SchnorrPointsUptoSaid : Prop := schnorrPointsUptoRow.holds Tryd.pinned (OpenSpec.upto schnorrPointsSpec)

/-- 'obollaw09.SchnorrSigns', WHERE WHAT IT READS IS OF BULK AT MOST 1048576: true; the input reads as it did. -/
def schnorrSignsUptoRow : OpenClaim := { program := "ytiffendfojhapaadoor", sum := "d95e282101ce23bd17fa9f099a253dffc40f99ed6c72ffd7f830b4b9d3063875", func := "obol/obollaw09.SchnorrSigns", spec := "schnorrSigns", named := ["math/bits.divideError", "math/bits.overflowError", "obol/blake.rows"], apart := false, laid := [("obol/blake.rows", laid_obol_blake_rows)], narrowed := true }
def SchnorrSignsUptoSaid : Prop := schnorrSignsUptoRow.holds Tryd.pinned (OpenSpec.upto schnorrSignsSpec)

/-- 'obollaw09.SchnorrVerifies', WHERE WHAT IT READS IS OF BULK AT MOST 1048576: true; the input reads as it did. -/
def schnorrVerifiesUptoRow : OpenClaim := { program := "ytiffendfojhapaadoor", sum := "d95e282101ce23bd17fa9f099a253dffc40f99ed6c72ffd7f830b4b9d3063875", func := "obol/obollaw09.SchnorrVerifies", spec := "schnorrVerifies", named := ["math/bits.divideError", "math/bits.overflowError", "obol/blake.rows"], apart := false, laid := [("obol/blake.rows", laid_obol_blake_rows)], narrowed := true }
def SchnorrVerifiesUptoSaid : Prop := schnorrVerifiesUptoRow.holds Tryd.pinned (OpenSpec.upto schnorrVerifiesSpec)

/-- 'obollaw09.SchnorrStays', WHERE WHAT IT READS IS OF BULK AT MOST 1048576: true; the input reads as it did. -/
def schnorrStaysUptoRow : OpenClaim := { program := "ytiffendfojhapaadoor", sum := "d95e282101ce23bd17fa9f099a253dffc40f99ed6c72ffd7f830b4b9d3063875", func := "obol/obollaw09.SchnorrStays", spec := "schnorrStays", named := ["math/bits.divideError", "math/bits.overflowError", "obol/blake.rows"], apart := false, laid := [("obol/blake.rows", laid_obol_blake_rows)], narrowed := true }
def SchnorrStaysUptoSaid : Prop := schnorrStaysUptoRow.holds Tryd.pinned (OpenSpec.upto schnorrStaysSpec)

/-- 'obollaw09.SchnorrTurns', WHERE WHAT IT READS IS OF BULK AT MOST 1048576: true; the input reads as it did. -/
def schnorrTurnsUptoRow : OpenClaim := { program := "ytiffendfojhapaadoor", sum := "d95e282101ce23bd17fa9f099a253dffc40f99ed6c72ffd7f830b4b9d3063875", func := "obol/obollaw09.SchnorrTurns", spec := "schnorrTurns", named := ["math/bits.divideError", "math/bits.overflowError", "obol/blake.rows"], apart := false, laid := [("obol/blake.rows", laid_obol_blake_rows)], narrowed := true }
def SchnorrTurnsUptoSaid : Prop := schnorrTurnsUptoRow.holds Tryd.pinned (OpenSpec.upto schnorrTurnsSpec)

/-- 'obollaw09.SchnorrHolds', WHERE WHAT IT READS IS OF BULK AT MOST 1048576: true; the input reads as it did. -/
def schnorrHoldsUptoRow : OpenClaim := { program := "ytiffendfojhapaadoor", sum := "d95e282101ce23bd17fa9f099a253dffc40f99ed6c72ffd7f830b4b9d3063875", func := "obol/obollaw09.SchnorrHolds", spec := "schnorrHolds", named := ["math/bits.divideError", "math/bits.overflowError", "obol/blake.rows"], apart := false, laid := [("obol/blake.rows", laid_obol_blake_rows)], narrowed := true }
def SchnorrHoldsUptoSaid : Prop := schnorrHoldsUptoRow.holds Tryd.pinned (OpenSpec.upto schnorrHoldsSpec)

/-- 'obollaw08.PedersenCommits', WHERE WHAT IT READS IS OF BULK AT MOST 1048576: true; the input reads as it did. -/
def pedersenCommitsUptoRow : OpenClaim := { program := "ytiffendfojhapaadoor", sum := "d95e282101ce23bd17fa9f099a253dffc40f99ed6c72ffd7f830b4b9d3063875", func := "obol/obollaw08.PedersenCommits", spec := "pedersenCommits", named := ["obol/blake.rows", "math/bits.divideError", "math/bits.overflowError"], apart := false, laid := [("obol/blake.rows", laid_obol_blake_rows)], narrowed := true }
def PedersenCommitsUptoSaid : Prop := pedersenCommitsUptoRow.holds Tryd.pinned (OpenSpec.upto pedersenCommitsSpec)

/-- 'obollaw08.PedersenAdds', WHERE WHAT IT READS IS OF BULK AT MOST 1048576: true; the input reads as it did. -/
def pedersenAddsUptoRow : OpenClaim := { program := "ytiffendfojhapaadoor", sum := "d95e282101ce23bd17fa9f099a253dffc40f99ed6c72ffd7f830b4b9d3063875", func := "obol/obollaw08.PedersenAdds", spec := "pedersenAdds", named := ["obol/blake.rows", "math/bits.divideError", "math/bits.overflowError"], apart := false, laid := [("obol/blake.rows", laid_obol_blake_rows)], narrowed := true }
def PedersenAddsUptoSaid : Prop := pedersenAddsUptoRow.holds Tryd.pinned (OpenSpec.upto pedersenAddsSpec)

/-- 'obollaw08.PedersenTwo', WHERE WHAT IT READS IS OF BULK AT MOST 1048576: true; the input reads as it did. -/
def pedersenTwoUptoRow : OpenClaim := { program := "ytiffendfojhapaadoor", sum := "d95e282101ce23bd17fa9f099a253dffc40f99ed6c72ffd7f830b4b9d3063875", func := "obol/obollaw08.PedersenTwo", spec := "pedersenTwo", named := ["obol/blake.rows", "math/bits.divideError", "math/bits.overflowError"], apart := false, laid := [("obol/blake.rows", laid_obol_blake_rows)], narrowed := true }
def PedersenTwoUptoSaid : Prop := pedersenTwoUptoRow.holds Tryd.pinned (OpenSpec.upto pedersenTwoSpec)

/-- 'obollaw08.PedersenStays', WHERE WHAT IT READS IS OF BULK AT MOST 1048576: true; the input reads as it did. -/
def pedersenStaysUptoRow : OpenClaim := { program := "ytiffendfojhapaadoor", sum := "d95e282101ce23bd17fa9f099a253dffc40f99ed6c72ffd7f830b4b9d3063875", func := "obol/obollaw08.PedersenStays", spec := "pedersenStays", named := ["obol/blake.rows", "math/bits.divideError", "math/bits.overflowError"], apart := false, laid := [("obol/blake.rows", laid_obol_blake_rows)], narrowed := true }
def PedersenStaysUptoSaid : Prop := pedersenStaysUptoRow.holds Tryd.pinned (OpenSpec.upto pedersenStaysSpec)

end Rows
end Go.Proofs.YtiffendfojhapaaDoor
