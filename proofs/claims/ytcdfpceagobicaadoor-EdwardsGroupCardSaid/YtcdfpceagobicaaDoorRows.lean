/-
  NARROWER THAN 'FOR EVERY INPUT', by the rows' own cells (each row's printed sentence says how): BlakeSums: laid · BlakePerson: laid · BlakeStays: laid · BlakeNumbers: laid · EdwardsGroup: laid.
  DERIVED. THE GIVEN ROWS OF THIS SEAT. 5 by the template 'for every input the law returns true; each argument reads behind the call as it read before'; 0 by the template 'total and deterministic' (their statements: YtcdfpceagobicaaDoorTotals.lean).
  GIVEN WITH THE SEED: the statements are not yours to turn. If you find one false, say at which input.
  Laid BY PROGRAM, IN A SANDBOX (cutbox-rows.mjs): the forced cells as the released guide's own fill.sh prints them over the translation dff31aa19348a17e… (all of the seat's roots in one cut). By AI agents, Wed Nov 11 2026. No macro, syntax, notation, axiom, sorry.
-/
import Derived.Test.YtcdfpceagobicaaDoorChecked
import GoSem.Claim
import GoSem.ClaimJoined
import GoSem.ClaimMapViews
import Derived.JoinedTies
import Derived.KernelRfl
namespace Go.Proofs.YtcdfpceagobicaaDoor
/- THE CELL 'sum', in the pinned program and in every row, IS THE sha256 OF THE DUMP (.gsa) THAT YtcdfpceagobicaaDoorProg.lean LOADS. Nothing in Lean hashes anything: it is a label: what it is worth is what the hold of that sum in a sandbox is worth. -/
noncomputable def Tryd.pinned : Pinned := { name := "ytcdfpceagobicaadoor", sum := "dff31aa19348a17e587bcd493d6b0f30d03dbe98f91205ddb8239d742fd58ee8", checked := Tryd.checked }
namespace Rows
def none {H : Type} : Left H := { results := [], args := [] }

/- WHAT THE LISTED PACKAGE-LEVEL VARIABLES READ AS WHEN THE CALL BEGINS. Each datum BY PROGRAM (the guide's laid-datum.mjs) off the statement by which the dump's own 'gosem.cut.vars' lays the variable. In a bare row this is a premise. The card (YtcdfpceagobicaaDoorCards.lean) ties it to the program's text. -/
def laid_obol_blake_rows {H : Type} : DataW H := .agg [.agg [.lit (.int .i64 0), .lit (.int .i64 1), .lit (.int .i64 2), .lit (.int .i64 3), .lit (.int .i64 4), .lit (.int .i64 5), .lit (.int .i64 6), .lit (.int .i64 7), .lit (.int .i64 8), .lit (.int .i64 9), .lit (.int .i64 10), .lit (.int .i64 11), .lit (.int .i64 12), .lit (.int .i64 13), .lit (.int .i64 14), .lit (.int .i64 15)], .agg [.lit (.int .i64 14), .lit (.int .i64 10), .lit (.int .i64 4), .lit (.int .i64 8), .lit (.int .i64 9), .lit (.int .i64 15), .lit (.int .i64 13), .lit (.int .i64 6), .lit (.int .i64 1), .lit (.int .i64 12), .lit (.int .i64 0), .lit (.int .i64 2), .lit (.int .i64 11), .lit (.int .i64 7), .lit (.int .i64 5), .lit (.int .i64 3)], .agg [.lit (.int .i64 11), .lit (.int .i64 8), .lit (.int .i64 12), .lit (.int .i64 0), .lit (.int .i64 5), .lit (.int .i64 2), .lit (.int .i64 15), .lit (.int .i64 13), .lit (.int .i64 10), .lit (.int .i64 14), .lit (.int .i64 3), .lit (.int .i64 6), .lit (.int .i64 7), .lit (.int .i64 1), .lit (.int .i64 9), .lit (.int .i64 4)], .agg [.lit (.int .i64 7), .lit (.int .i64 9), .lit (.int .i64 3), .lit (.int .i64 1), .lit (.int .i64 13), .lit (.int .i64 12), .lit (.int .i64 11), .lit (.int .i64 14), .lit (.int .i64 2), .lit (.int .i64 6), .lit (.int .i64 5), .lit (.int .i64 10), .lit (.int .i64 4), .lit (.int .i64 0), .lit (.int .i64 15), .lit (.int .i64 8)], .agg [.lit (.int .i64 9), .lit (.int .i64 0), .lit (.int .i64 5), .lit (.int .i64 7), .lit (.int .i64 2), .lit (.int .i64 4), .lit (.int .i64 10), .lit (.int .i64 15), .lit (.int .i64 14), .lit (.int .i64 1), .lit (.int .i64 11), .lit (.int .i64 12), .lit (.int .i64 6), .lit (.int .i64 8), .lit (.int .i64 3), .lit (.int .i64 13)], .agg [.lit (.int .i64 2), .lit (.int .i64 12), .lit (.int .i64 6), .lit (.int .i64 10), .lit (.int .i64 0), .lit (.int .i64 11), .lit (.int .i64 8), .lit (.int .i64 3), .lit (.int .i64 4), .lit (.int .i64 13), .lit (.int .i64 7), .lit (.int .i64 5), .lit (.int .i64 15), .lit (.int .i64 14), .lit (.int .i64 1), .lit (.int .i64 9)], .agg [.lit (.int .i64 12), .lit (.int .i64 5), .lit (.int .i64 1), .lit (.int .i64 15), .lit (.int .i64 14), .lit (.int .i64 13), .lit (.int .i64 4), .lit (.int .i64 10), .lit (.int .i64 0), .lit (.int .i64 7), .lit (.int .i64 6), .lit (.int .i64 3), .lit (.int .i64 9), .lit (.int .i64 2), .lit (.int .i64 8), .lit (.int .i64 11)], .agg [.lit (.int .i64 13), .lit (.int .i64 11), .lit (.int .i64 7), .lit (.int .i64 14), .lit (.int .i64 12), .lit (.int .i64 1), .lit (.int .i64 3), .lit (.int .i64 9), .lit (.int .i64 5), .lit (.int .i64 0), .lit (.int .i64 15), .lit (.int .i64 4), .lit (.int .i64 8), .lit (.int .i64 6), .lit (.int .i64 2), .lit (.int .i64 10)], .agg [.lit (.int .i64 6), .lit (.int .i64 15), .lit (.int .i64 14), .lit (.int .i64 9), .lit (.int .i64 11), .lit (.int .i64 3), .lit (.int .i64 0), .lit (.int .i64 8), .lit (.int .i64 12), .lit (.int .i64 2), .lit (.int .i64 13), .lit (.int .i64 7), .lit (.int .i64 1), .lit (.int .i64 4), .lit (.int .i64 10), .lit (.int .i64 5)], .agg [.lit (.int .i64 10), .lit (.int .i64 2), .lit (.int .i64 8), .lit (.int .i64 4), .lit (.int .i64 7), .lit (.int .i64 6), .lit (.int .i64 1), .lit (.int .i64 5), .lit (.int .i64 15), .lit (.int .i64 11), .lit (.int .i64 9), .lit (.int .i64 14), .lit (.int .i64 3), .lit (.int .i64 12), .lit (.int .i64 13), .lit (.int .i64 0)]]

/-- 'obollaw05.BlakeSums': WHATEVER THE INPUT: true; the input reads as it did. -/
def blakeSumsSpec : ChangeSpec := { name := "blakeSums", fn := fun _ => fun
  | [d1, d2] => { results := [.lit (.bool true)], args := [d1, d2] }
  | _ => none }
def blakeSumsRow : OpenClaim := { program := "ytcdfpceagobicaadoor", sum := "dff31aa19348a17e587bcd493d6b0f30d03dbe98f91205ddb8239d742fd58ee8", func := "obol/obollaw05.BlakeSums", spec := "blakeSums", named := ["obol/blake.rows"], apart := false, laid := [("obol/blake.rows", laid_obol_blake_rows)] }
def BlakeSumsSaid : Prop := blakeSumsRow.holds Tryd.pinned (OpenSpec.ofChange blakeSumsSpec)

/-- ITS FALSE NEIGHBOUR: 'it returns false'. Refute it at one input. -/
def blakeSumsWrong : ChangeSpec := { name := "blakeSums", fn := fun _ => fun
  | [d1, d2] => { results := [.lit (.bool false)], args := [d1, d2] }
  | _ => none }
def BlakeSumsWrongFalsely : Prop := blakeSumsRow.holds Tryd.pinned (OpenSpec.ofChange blakeSumsWrong)

/-- 'obollaw05.BlakePerson': WHATEVER THE INPUT: true; the input reads as it did. -/
def blakePersonSpec : ChangeSpec := { name := "blakePerson", fn := fun _ => fun
  | [d1, d2] => { results := [.lit (.bool true)], args := [d1, d2] }
  | _ => none }
def blakePersonRow : OpenClaim := { program := "ytcdfpceagobicaadoor", sum := "dff31aa19348a17e587bcd493d6b0f30d03dbe98f91205ddb8239d742fd58ee8", func := "obol/obollaw05.BlakePerson", spec := "blakePerson", named := ["obol/blake.rows"], apart := false, laid := [("obol/blake.rows", laid_obol_blake_rows)] }
def BlakePersonSaid : Prop := blakePersonRow.holds Tryd.pinned (OpenSpec.ofChange blakePersonSpec)

/-- ITS FALSE NEIGHBOUR: 'it returns false'. Refute it at one input. -/
def blakePersonWrong : ChangeSpec := { name := "blakePerson", fn := fun _ => fun
  | [d1, d2] => { results := [.lit (.bool false)], args := [d1, d2] }
  | _ => none }
def BlakePersonWrongFalsely : Prop := blakePersonRow.holds Tryd.pinned (OpenSpec.ofChange blakePersonWrong)

/-- 'obollaw05.BlakeStays': WHATEVER THE INPUT: true; the input reads as it did. -/
def blakeStaysSpec : ChangeSpec := { name := "blakeStays", fn := fun _ => fun
  | [d] => { results := [.lit (.bool true)], args := [d] }
  | _ => none }
def blakeStaysRow : OpenClaim := { program := "ytcdfpceagobicaadoor", sum := "dff31aa19348a17e587bcd493d6b0f30d03dbe98f91205ddb8239d742fd58ee8", func := "obol/obollaw05.BlakeStays", spec := "blakeStays", named := ["obol/blake.rows"], apart := false, laid := [("obol/blake.rows", laid_obol_blake_rows)] }
def BlakeStaysSaid : Prop := blakeStaysRow.holds Tryd.pinned (OpenSpec.ofChange blakeStaysSpec)

/-- ITS FALSE NEIGHBOUR: 'it returns false'. Refute it at one input. -/
def blakeStaysWrong : ChangeSpec := { name := "blakeStays", fn := fun _ => fun
  | [d] => { results := [.lit (.bool false)], args := [d] }
  | _ => none }
def BlakeStaysWrongFalsely : Prop := blakeStaysRow.holds Tryd.pinned (OpenSpec.ofChange blakeStaysWrong)

/-- 'obollaw05.BlakeNumbers': WHATEVER THE INPUT: true; the input reads as it did. -/
def blakeNumbersSpec : ChangeSpec := { name := "blakeNumbers", fn := fun _ => fun
  | [d1, d2, d3] => { results := [.lit (.bool true)], args := [d1, d2, d3] }
  | _ => none }
def blakeNumbersRow : OpenClaim := { program := "ytcdfpceagobicaadoor", sum := "dff31aa19348a17e587bcd493d6b0f30d03dbe98f91205ddb8239d742fd58ee8", func := "obol/obollaw05.BlakeNumbers", spec := "blakeNumbers", named := ["obol/blake.rows"], apart := false, laid := [("obol/blake.rows", laid_obol_blake_rows)] }
def BlakeNumbersSaid : Prop := blakeNumbersRow.holds Tryd.pinned (OpenSpec.ofChange blakeNumbersSpec)

/-- ITS FALSE NEIGHBOUR: 'it returns false'. Refute it at one input. -/
def blakeNumbersWrong : ChangeSpec := { name := "blakeNumbers", fn := fun _ => fun
  | [d1, d2, d3] => { results := [.lit (.bool false)], args := [d1, d2, d3] }
  | _ => none }
def BlakeNumbersWrongFalsely : Prop := blakeNumbersRow.holds Tryd.pinned (OpenSpec.ofChange blakeNumbersWrong)

/-- 'obollaw07.EdwardsGroup': WHATEVER THE INPUT: true; the input reads as it did. -/
def edwardsGroupSpec : ChangeSpec := { name := "edwardsGroup", fn := fun _ => fun
  | [d1, d2, d3, d4, d5] => { results := [.lit (.bool true)], args := [d1, d2, d3, d4, d5] }
  | _ => none }
def edwardsGroupRow : OpenClaim := { program := "ytcdfpceagobicaadoor", sum := "dff31aa19348a17e587bcd493d6b0f30d03dbe98f91205ddb8239d742fd58ee8", func := "obol/obollaw07.EdwardsGroup", spec := "edwardsGroup", named := ["math/bits.divideError", "math/bits.overflowError", "obol/blake.rows"], apart := false, laid := [("obol/blake.rows", laid_obol_blake_rows)] }
def EdwardsGroupSaid : Prop := edwardsGroupRow.holds Tryd.pinned (OpenSpec.ofChange edwardsGroupSpec)

/-- ITS FALSE NEIGHBOUR: 'it returns false'. Refute it at one input. -/
def edwardsGroupWrong : ChangeSpec := { name := "edwardsGroup", fn := fun _ => fun
  | [d1, d2, d3, d4, d5] => { results := [.lit (.bool false)], args := [d1, d2, d3, d4, d5] }
  | _ => none }
def EdwardsGroupWrongFalsely : Prop := edwardsGroupRow.holds Tryd.pinned (OpenSpec.ofChange edwardsGroupWrong)

/- THE SECOND FORM. 'bulk': how many values and letters a reading holds, each counted each time it is reached (what is shared counts as often as it is met; a slice's spare places count too). A statement '..UptoSaid' is the law's where the arguments, and the package variables that the reading takes, are together of bulk at most 1048576: NARROWER than '..Said'. Prove '..Said' where nothing that the law and all that it calls make is longer than what came in: it says more and counts as full. Else prove '..UptoSaid'. A law counts once. -/
mutual
def uptoBulk {H : Type} : DataW H → Nat
  | .lit (.string bytes) => bytes.length + 1
  | .lit _ => 1
  | .nil => 1
  | .ptr d => uptoBulk d + 1
  | .slice elems spare => uptoBulkAll elems + uptoBulkAll spare + 1
  | .agg parts => uptoBulkAll parts + 1
  | .iface _ d => uptoBulk d + 1
  | .map entries => uptoBulkEntries entries + 1
  | .held _ => 1
def uptoBulkAll {H : Type} : List (DataW H) → Nat
  | [] => 0
  | d :: r => uptoBulk d + uptoBulkAll r
def uptoBulkEntries {H : Type} : List (Lit × DataW H) → Nat
  | [] => 0
  | x :: r => uptoBulkEntry x + uptoBulkEntries r
def uptoBulkEntry {H : Type} : Lit × DataW H → Nat
  | (.string bytes, d) => bytes.length + uptoBulk d + 1
  | (_, d) => uptoBulk d + 1
 end
def uptoSmall : (H : Type) → List (DataW H) → Bool := fun _ ds => decide (uptoBulkAll ds ≤ 1048576)
def OpenSpec.upto (s : _root_.Go.ChangeSpec) : _root_.Go.OpenSpec := { _root_.Go.OpenSpec.ofChange s with cond := some uptoSmall }

/-- 'obollaw05.BlakeSums', WHERE WHAT IT READS IS OF BULK AT MOST 1048576: true; the input reads as it did. -/
def blakeSumsUptoRow : OpenClaim := { program := "ytcdfpceagobicaadoor", sum := "dff31aa19348a17e587bcd493d6b0f30d03dbe98f91205ddb8239d742fd58ee8", func := "obol/obollaw05.BlakeSums", spec := "blakeSums", named := ["obol/blake.rows"], apart := false, laid := [("obol/blake.rows", laid_obol_blake_rows)], narrowed := true }
def BlakeSumsUptoSaid : Prop := blakeSumsUptoRow.holds Tryd.pinned (OpenSpec.upto blakeSumsSpec)

/-- 'obollaw05.BlakePerson', WHERE WHAT IT READS IS OF BULK AT MOST 1048576: true; the input reads as it did. -/
def blakePersonUptoRow : OpenClaim := { program := "ytcdfpceagobicaadoor", sum := "dff31aa19348a17e587bcd493d6b0f30d03dbe98f91205ddb8239d742fd58ee8", func := "obol/obollaw05.BlakePerson", spec := "blakePerson", named := ["obol/blake.rows"], apart := false, laid := [("obol/blake.rows", laid_obol_blake_rows)], narrowed := true }
def BlakePersonUptoSaid : Prop := blakePersonUptoRow.holds Tryd.pinned (OpenSpec.upto blakePersonSpec)

/-- 'obollaw05.BlakeStays', WHERE WHAT IT READS IS OF BULK AT MOST 1048576: true; the input reads as it did. -/
def blakeStaysUptoRow : OpenClaim := { program := "ytcdfpceagobicaadoor", sum := "dff31aa19348a17e587bcd493d6b0f30d03dbe98f91205ddb8239d742fd58ee8", func := "obol/obollaw05.BlakeStays", spec := "blakeStays", named := ["obol/blake.rows"], apart := false, laid := [("obol/blake.rows", laid_obol_blake_rows)], narrowed := true }
def BlakeStaysUptoSaid : Prop := blakeStaysUptoRow.holds Tryd.pinned (OpenSpec.upto blakeStaysSpec)

/-- 'obollaw05.BlakeNumbers', WHERE WHAT IT READS IS OF BULK AT MOST 1048576: true; the input reads as it did. -/
def blakeNumbersUptoRow : OpenClaim := { program := "ytcdfpceagobicaadoor", sum := "dff31aa19348a17e587bcd493d6b0f30d03dbe98f91205ddb8239d742fd58ee8", func := "obol/obollaw05.BlakeNumbers", spec := "blakeNumbers", named := ["obol/blake.rows"], apart := false, laid := [("obol/blake.rows", laid_obol_blake_rows)], narrowed := true }
def BlakeNumbersUptoSaid : Prop := blakeNumbersUptoRow.holds Tryd.pinned (OpenSpec.upto blakeNumbersSpec)

/-- 'obollaw07.EdwardsGroup', WHERE WHAT IT READS IS OF BULK AT MOST 1048576: true; the input reads as it did. -/
def edwardsGroupUptoRow : OpenClaim := { program := "ytcdfpceagobicaadoor", sum := "dff31aa19348a17e587bcd493d6b0f30d03dbe98f91205ddb8239d742fd58ee8", func := "obol/obollaw07.EdwardsGroup", spec := "edwardsGroup", named := ["math/bits.divideError", "math/bits.overflowError", "obol/blake.rows"], apart := false, laid := [("obol/blake.rows", laid_obol_blake_rows)], narrowed := true }
def EdwardsGroupUptoSaid : Prop := edwardsGroupUptoRow.holds Tryd.pinned (OpenSpec.upto edwardsGroupSpec)

end Rows
end Go.Proofs.YtcdfpceagobicaaDoor
