/-
  No cell of these rows narrows 'for every input' (looked for: loops, veiled, ifaces, maps, wideKeys, modest, calm, conditions, laid).
  DERIVED. THE GIVEN ROWS OF THIS SEAT. 3 by the template 'for every input the law returns true; each argument reads behind the call as it read before'; 0 by the template 'total and deterministic' (their statements: YtcdfpceagobicaaTotals.lean).
  GIVEN WITH THE SEED: the statements are not yours to turn. If you find one false, say at which input.
  Laid BY PROGRAM, IN A SANDBOX (cutbox-rows.mjs): the forced cells as the released guide's own fill.sh prints them over the translation dce415e69ef55cdb… (all of the seat's roots in one cut). By AI agents, Wed Nov 11 2026. No macro, syntax, notation, axiom, sorry.
-/
import Derived.Test.YtcdfpceagobicaaChecked
import GoSem.Claim
import GoSem.ClaimJoined
import GoSem.ClaimMapViews
import Derived.JoinedTies
import Derived.KernelRfl
namespace Go.Proofs.Ytcdfpceagobicaa
/- THE CELL 'sum', in the pinned program and in every row, IS THE sha256 OF THE DUMP (.gsa) THAT YtcdfpceagobicaaProg.lean LOADS. Nothing in Lean hashes anything: it is a label: what it is worth is what the hold of that sum in a sandbox is worth. -/
noncomputable def Try.pinned : Pinned := { name := "ytcdfpceagobicaa", sum := "dce415e69ef55cdb55ef9577f6bf4ad1f7b5a1e80c426bde944c0a8476a257ad", checked := Try.checked }
namespace Rows
def none {H : Type} : Left H := { results := [], args := [] }

/-- 'obollaw07.EdwardsReads': WHATEVER THE INPUT: true; the input reads as it did. -/
def edwardsReadsSpec : ChangeSpec := { name := "edwardsReads", fn := fun _ => fun
  | [d] => { results := [.lit (.bool true)], args := [d] }
  | _ => none }
def edwardsReadsRow : OpenClaim := { program := "ytcdfpceagobicaa", sum := "dce415e69ef55cdb55ef9577f6bf4ad1f7b5a1e80c426bde944c0a8476a257ad", func := "obol/obollaw07.EdwardsReads", spec := "edwardsReads", named := ["math/bits.divideError", "math/bits.overflowError"], apart := false }
def EdwardsReadsSaid : Prop := edwardsReadsRow.holds Try.pinned (OpenSpec.ofChange edwardsReadsSpec)

/-- ITS FALSE NEIGHBOUR: 'it returns false'. Refute it at one input. -/
def edwardsReadsWrong : ChangeSpec := { name := "edwardsReads", fn := fun _ => fun
  | [d] => { results := [.lit (.bool false)], args := [d] }
  | _ => none }
def EdwardsReadsWrongFalsely : Prop := edwardsReadsRow.holds Try.pinned (OpenSpec.ofChange edwardsReadsWrong)

/-- 'obollaw07.EdwardsWrites': WHATEVER THE INPUT: true; the input reads as it did. -/
def edwardsWritesSpec : ChangeSpec := { name := "edwardsWrites", fn := fun _ => fun
  | [d] => { results := [.lit (.bool true)], args := [d] }
  | _ => none }
def edwardsWritesRow : OpenClaim := { program := "ytcdfpceagobicaa", sum := "dce415e69ef55cdb55ef9577f6bf4ad1f7b5a1e80c426bde944c0a8476a257ad", func := "obol/obollaw07.EdwardsWrites", spec := "edwardsWrites", named := ["math/bits.divideError", "math/bits.overflowError"], apart := false }
def EdwardsWritesSaid : Prop := edwardsWritesRow.holds Try.pinned (OpenSpec.ofChange edwardsWritesSpec)

/-- ITS FALSE NEIGHBOUR: 'it returns false'. Refute it at one input. -/
def edwardsWritesWrong : ChangeSpec := { name := "edwardsWrites", fn := fun _ => fun
  | [d] => { results := [.lit (.bool false)], args := [d] }
  | _ => none }
def EdwardsWritesWrongFalsely : Prop := edwardsWritesRow.holds Try.pinned (OpenSpec.ofChange edwardsWritesWrong)

/-- 'obollaw07.EdwardsStays': WHATEVER THE INPUT: true; the input reads as it did. -/
def edwardsStaysSpec : ChangeSpec := { name := "edwardsStays", fn := fun _ => fun
  | [d1, d2] => { results := [.lit (.bool true)], args := [d1, d2] }
  | _ => none }
def edwardsStaysRow : OpenClaim := { program := "ytcdfpceagobicaa", sum := "dce415e69ef55cdb55ef9577f6bf4ad1f7b5a1e80c426bde944c0a8476a257ad", func := "obol/obollaw07.EdwardsStays", spec := "edwardsStays", named := ["math/bits.divideError", "math/bits.overflowError"], apart := false }
def EdwardsStaysSaid : Prop := edwardsStaysRow.holds Try.pinned (OpenSpec.ofChange edwardsStaysSpec)

/-- ITS FALSE NEIGHBOUR: 'it returns false'. Refute it at one input. -/
def edwardsStaysWrong : ChangeSpec := { name := "edwardsStays", fn := fun _ => fun
  | [d1, d2] => { results := [.lit (.bool false)], args := [d1, d2] }
  | _ => none }
def EdwardsStaysWrongFalsely : Prop := edwardsStaysRow.holds Try.pinned (OpenSpec.ofChange edwardsStaysWrong)

/- THE SECOND FORM. 'bulk': how many values and letters a reading holds, each counted each time it is reached (what is shared counts as often as it is met; a slice's spare places count too). A statement '..UptoSaid' is the law's where the arguments, and the package variables that the reading takes, are together of bulk at most 1048576: NARROWER than '..Said'. Prove '..Said' where nothing that the law and all that it calls make is longer than what came in: it says more and counts as full. Else prove '..UptoSaid'. A law counts once. -/
mutual
def uptoBulk {H : Type} : DataW H → Nat
  | .lit (.string bytes) => bytes.length + 1
  | .lit _ => 1
  | .nil => 1
  | .ptr d => uptoBulk d + 1
  | .slice elems spare => uptoBulkAll elems + uptoBulkAll spare + 1
  | .agg parts => uptoBulkAll parts + 1
  | .iface _ d => uptoBulk d + 1
  | .map entries => uptoBulkEntries entries + 1
  | .held _ => 1
def uptoBulkAll {H : Type} : List (DataW H) → Nat
  | [] => 0
  | d :: r => uptoBulk d + uptoBulkAll r
def uptoBulkEntries {H : Type} : List (Lit × DataW H) → Nat
  | [] => 0
  | x :: r => uptoBulkEntry x + uptoBulkEntries r
def uptoBulkEntry {H : Type} : Lit × DataW H → Nat
  | (.string bytes, d) => bytes.length + uptoBulk d + 1
  | (_, d) => uptoBulk d + 1
 end
def uptoSmall : (H : Type) → List (DataW H) → Bool := fun _ ds => decide (uptoBulkAll ds ≤ 1048576)
def OpenSpec.upto (s : _root_.Go.ChangeSpec) : _root_.Go.OpenSpec := { _root_.Go.OpenSpec.ofChange s with cond := some uptoSmall }

/-- 'obollaw07.EdwardsReads', WHERE WHAT IT READS IS OF BULK AT MOST 1048576: true; the input reads as it did. -/
def edwardsReadsUptoRow : OpenClaim := { program := "ytcdfpceagobicaa", sum := "dce415e69ef55cdb55ef9577f6bf4ad1f7b5a1e80c426bde944c0a8476a257ad", func := "obol/obollaw07.EdwardsReads", spec := "edwardsReads", named := ["math/bits.divideError", "math/bits.overflowError"], apart := false, narrowed := true }
def EdwardsReadsUptoSaid : Prop := edwardsReadsUptoRow.holds Try.pinned (OpenSpec.upto edwardsReadsSpec)

/-- 'obollaw07.EdwardsWrites', WHERE WHAT IT READS IS OF BULK AT MOST 1048576: true; the input reads as it did. -/
def edwardsWritesUptoRow : OpenClaim := { program := "ytcdfpceagobicaa", sum := "dce415e69ef55cdb55ef9577f6bf4ad1f7b5a1e80c426bde944c0a8476a257ad", func := "obol/obollaw07.EdwardsWrites", spec := "edwardsWrites", named := ["math/bits.divideError", "math/bits.overflowError"], apart := false, narrowed := true }
def EdwardsWritesUptoSaid : Prop := edwardsWritesUptoRow.holds Try.pinned (OpenSpec.upto edwardsWritesSpec)

/-- 'obollaw07.EdwardsStays', WHERE WHAT IT READS IS OF BULK AT MOST 1048576: true; the input reads as it did. -/
def edwardsStaysUptoRow : OpenClaim := { program := "ytcdfpceagobicaa", sum := "dce415e69ef55cdb55ef9577f6bf4ad1f7b5a1e80c426bde944c0a8476a257ad", func := "obol/obollaw07.EdwardsStays", spec := "edwardsStays", named := ["math/bits.divideError", "math/bits.overflowError"], apart := false, narrowed := true }
def EdwardsStaysUptoSaid : Prop := edwardsStaysUptoRow.holds Try.pinned (OpenSpec.upto edwardsStaysSpec)

end Rows
end Go.Proofs.Ytcdfpceagobicaa
