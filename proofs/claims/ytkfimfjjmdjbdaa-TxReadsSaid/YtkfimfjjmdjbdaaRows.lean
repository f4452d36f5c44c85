/-
  No cell of these rows narrows 'for every input' (looked for: loops, veiled, ifaces, maps, wideKeys, modest, calm, conditions, laid).
  DERIVED. THE GIVEN ROWS OF THIS SEAT. 4 by the template 'for every input the law returns true; each argument reads behind the call as it read before'; 0 by the template 'total and deterministic' (their statements: YtkfimfjjmdjbdaaTotals.lean).
  GIVEN WITH THE SEED: the statements are not yours to turn. If you find one false, say at which input.
  Laid BY PROGRAM, IN A SANDBOX (cutbox-rows.mjs): the forced cells as the released guide's own fill.sh prints them over the translation b61edc591806a6f8… (all of the seat's roots in one cut). By AI agents, Wed Nov 11 2026. No macro, syntax, notation, axiom, sorry.
-/
import Derived.Test.YtkfimfjjmdjbdaaChecked
import GoSem.Claim
import GoSem.ClaimJoined
import GoSem.ClaimMapViews
import Derived.JoinedTies
import Derived.KernelRfl
namespace Go.Proofs.Ytkfimfjjmdjbdaa
/- THE CELL 'sum', in the pinned program and in every row, IS THE sha256 OF THE DUMP (.gsa) THAT YtkfimfjjmdjbdaaProg.lean LOADS. Nothing in Lean hashes anything: it is a label: what it is worth is what the hold of that sum in a sandbox is worth. -/
noncomputable def Try.pinned : Pinned := { name := "ytkfimfjjmdjbdaa", sum := "b61edc591806a6f892ff15098830afba1fcd82c65634c3325ecb1de10a799fbc", checked := Try.checked }
namespace Rows
def none {H : Type} : Left H := { results := [], args := [] }

/-- 'obollaw19.TxWrites': WHATEVER THE INPUT: true; the input reads as it did. -/
def txWritesSpec : ChangeSpec := { name := "txWrites", fn := fun _ => fun
  | [d] => { results := [.lit (.bool true)], args := [d] }
  | _ => none }
def txWritesRow : OpenClaim := { program := "ytkfimfjjmdjbdaa", sum := "b61edc591806a6f892ff15098830afba1fcd82c65634c3325ecb1de10a799fbc", func := "obol/obollaw19.TxWrites", spec := "txWrites", unfollowed := true, recurses := true, named := ["math/bits.divideError", "math/bits.overflowError"], apart := false }
def TxWritesSaid : Prop := txWritesRow.holds Try.pinned (OpenSpec.ofChange txWritesSpec)

/-- ITS FALSE NEIGHBOUR: 'it returns false'. Refute it at one input. -/
def txWritesWrong : ChangeSpec := { name := "txWrites", fn := fun _ => fun
  | [d] => { results := [.lit (.bool false)], args := [d] }
  | _ => none }
def TxWritesWrongFalsely : Prop := txWritesRow.holds Try.pinned (OpenSpec.ofChange txWritesWrong)

/-- 'obollaw19.TxReads': WHATEVER THE INPUT: true; the input reads as it did. -/
def txReadsSpec : ChangeSpec := { name := "txReads", fn := fun _ => fun
  | [d] => { results := [.lit (.bool true)], args := [d] }
  | _ => none }
def txReadsRow : OpenClaim := { program := "ytkfimfjjmdjbdaa", sum := "b61edc591806a6f892ff15098830afba1fcd82c65634c3325ecb1de10a799fbc", func := "obol/obollaw19.TxReads", spec := "txReads", unfollowed := true, recurses := true, named := ["math/bits.divideError", "math/bits.overflowError"], apart := false }
def TxReadsSaid : Prop := txReadsRow.holds Try.pinned (OpenSpec.ofChange txReadsSpec)

/-- ITS FALSE NEIGHBOUR: 'it returns false'. Refute it at one input. -/
def txReadsWrong : ChangeSpec := { name := "txReads", fn := fun _ => fun
  | [d] => { results := [.lit (.bool false)], args := [d] }
  | _ => none }
def TxReadsWrongFalsely : Prop := txReadsRow.holds Try.pinned (OpenSpec.ofChange txReadsWrong)

/-- 'obollaw19.TxBack': WHATEVER THE INPUT: true; the input reads as it did. -/
def txBackSpec : ChangeSpec := { name := "txBack", fn := fun _ => fun
  | [d1, d2, d3] => { results := [.lit (.bool true)], args := [d1, d2, d3] }
  | _ => none }
def txBackRow : OpenClaim := { program := "ytkfimfjjmdjbdaa", sum := "b61edc591806a6f892ff15098830afba1fcd82c65634c3325ecb1de10a799fbc", func := "obol/obollaw19.TxBack", spec := "txBack", unfollowed := true, recurses := true, named := ["math/bits.divideError", "math/bits.overflowError"], apart := false }
def TxBackSaid : Prop := txBackRow.holds Try.pinned (OpenSpec.ofChange txBackSpec)

/-- ITS FALSE NEIGHBOUR: 'it returns false'. Refute it at one input. -/
def txBackWrong : ChangeSpec := { name := "txBack", fn := fun _ => fun
  | [d1, d2, d3] => { results := [.lit (.bool false)], args := [d1, d2, d3] }
  | _ => none }
def TxBackWrongFalsely : Prop := txBackRow.holds Try.pinned (OpenSpec.ofChange txBackWrong)

/-- 'obollaw19.TxStays': WHATEVER THE INPUT: true; the input reads as it did. -/
def txStaysSpec : ChangeSpec := { name := "txStays", fn := fun _ => fun
  | [d1, d2] => { results := [.lit (.bool true)], args := [d1, d2] }
  | _ => none }
def txStaysRow : OpenClaim := { program := "ytkfimfjjmdjbdaa", sum := "b61edc591806a6f892ff15098830afba1fcd82c65634c3325ecb1de10a799fbc", func := "obol/obollaw19.TxStays", spec := "txStays", unfollowed := true, recurses := true, named := ["math/bits.divideError", "math/bits.overflowError"], apart := false }
def TxStaysSaid : Prop := txStaysRow.holds Try.pinned (OpenSpec.ofChange txStaysSpec)

/-- ITS FALSE NEIGHBOUR: 'it returns false'. Refute it at one input. -/
def txStaysWrong : ChangeSpec := { name := "txStays", fn := fun _ => fun
  | [d1, d2] => { results := [.lit (.bool false)], args := [d1, d2] }
  | _ => none }
def TxStaysWrongFalsely : Prop := txStaysRow.holds Try.pinned (OpenSpec.ofChange txStaysWrong)

/- THE SECOND FORM. 'bulk': how many values and letters a reading holds, each counted each time it is reached (what is shared counts as often as it is met; a slice's spare places count too). A statement '..UptoSaid' is the law's where the arguments, and the package variables that the reading takes, are together of bulk at most 1048576: NARROWER than '..Said'. Prove '..Said' where nothing that the law and all that it calls make is longer than what came in: it says more and counts as full. Else prove '..UptoSaid'. A law counts once. -/
mutual
def uptoBulk {H : Type} : DataW H → Nat
  | .lit (.string bytes) => bytes.length + 1
  | .lit _ => 1
  | .nil => 1
  | .ptr d => uptoBulk d + 1
  | .slice elems spare => uptoBulkAll elems + uptoBulkAll spare + 1
  | .agg parts => uptoBulkAll parts + 1
  | .iface _ d => uptoBulk d + 1
  | .map entries => uptoBulkEntries entries + 1
  | .held _ => 1
def uptoBulkAll {H : Type} : List (DataW H) → Nat
  | [] => 0
  | d :: r => uptoBulk d + uptoBulkAll r
def uptoBulkEntries {H : Type} : List (Lit × DataW H) → Nat
  | [] => 0
  | x :: r => uptoBulkEntry x + uptoBulkEntries r
def uptoBulkEntry {H : Type} : Lit × DataW H → Nat
  | (.string bytes, d) => bytes.length + uptoBulk d + 1
  | (_, d) => uptoBulk d + 1
 end
def uptoSmall : (H : Type) → List (DataW H) → Bool := fun _ ds => decide (uptoBulkAll ds ≤ 1048576)
def OpenSpec.upto (s : _root_.Go.ChangeSpec) : _root_.Go.OpenSpec := { _root_.Go.OpenSpec.ofChange s with cond := some uptoSmall }

/-- 'obollaw19.TxWrites', WHERE WHAT IT READS IS OF BULK AT MOST 1048576: true; the input reads as it did. -/
def txWritesUptoRow : OpenClaim := { program := "ytkfimfjjmdjbdaa", sum := "b61edc591806a6f892ff15098830afba1fcd82c65634c3325ecb1de10a799fbc", func := "obol/obollaw19.TxWrites", spec := "txWrites", unfollowed := true, recurses := true, named := ["math/bits.divideError", "math/bits.overflowError"], apart := false, narrowed := true }
def TxWritesUptoSaid : Prop := txWritesUptoRow.holds Try.pinned (OpenSpec.upto txWritesSpec)

/-- 'obollaw19.TxReads', WHERE WHAT IT READS IS OF BULK AT MOST 1048576: true; the input reads as it did. -/
def txReadsUptoRow : OpenClaim := { program := "ytkfimfjjmdjbdaa", sum := "b61edc591806a6f892ff15098830afba1fcd82c65634c3325ecb1de10a799fbc", func := "obol/obollaw19.TxReads", spec := "txReads", unfollowed := true, recurses := true, named := ["math/bits.divideError", "math/bits.overflowError"], apart := false, narrowed := true }
def TxReadsUptoSaid : Prop := txReadsUptoRow.holds Try.pinned (OpenSpec.upto txReadsSpec)

/-- 'obollaw19.TxBack', WHERE WHAT IT READS IS OF BULK AT MOST 1048576: true; the input reads as it did. -/
def txBackUptoRow : OpenClaim := { program := "ytkfimfjjmdjbdaa", sum := "b61edc591806a6f892ff15098830afba1fcd82c65634c3325ecb1de10a799fbc", func := "obol/obollaw19.TxBack", spec := "txBack", unfollowed := true, recurses := true, named := ["math/bits.divideError", "math/bits.overflowError"], apart := false, narrowed := true }
def TxBackUptoSaid : Prop := txBackUptoRow.holds Try.pinned (OpenSpec.upto txBackSpec)

/-- 'obollaw19.TxStays', WHERE WHAT IT READS IS OF BULK AT MOST 1048576: true; the input reads as it did. -/
def txStaysUptoRow : OpenClaim := { program := "ytkfimfjjmdjbdaa", sum := "b61edc591806a6f892ff15098830afba1fcd82c65634c3325ecb1de10a799fbc", func := "obol/obollaw19.TxStays", spec := "txStays", unfollowed := true, recurses := true, named := ["math/bits.divideError", "math/bits.overflowError"], apart := false, narrowed := true }
def TxStaysUptoSaid : Prop := txStaysUptoRow.holds Try.pinned (OpenSpec.upto txStaysSpec)

end Rows
end Go.Proofs.Ytkfimfjjmdjbdaa
