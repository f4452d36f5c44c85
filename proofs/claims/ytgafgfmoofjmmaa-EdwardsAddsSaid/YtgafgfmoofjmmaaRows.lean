/-
  No cell of these rows narrows 'for every input' (looked for: loops, veiled, ifaces, maps, wideKeys, modest, calm, conditions, laid).
  DERIVED. THE GIVEN ROWS OF THIS SEAT. 15 by the template 'for every input the law returns true; each argument reads behind the call as it read before'; 0 by the template 'total and deterministic' (their statements: YtgafgfmoofjmmaaTotals.lean).
  GIVEN WITH THE SEED: the statements are not yours to turn. If you find one false, say at which input.
  Laid BY PROGRAM, IN A SANDBOX (cutbox-rows.mjs): the forced cells as the released guide's own fill.sh prints them over the translation 60664e865339753c… (all of the seat's roots in one cut). By AI agents, Wed Nov 11 2026. No macro, syntax, notation, axiom, sorry.
-/
import Derived.Test.YtgafgfmoofjmmaaChecked
import GoSem.Claim
import GoSem.ClaimJoined
import GoSem.ClaimMapViews
import Derived.JoinedTies
import Derived.KernelRfl
namespace Go.Proofs.Ytgafgfmoofjmmaa
/- THE CELL 'sum', in the pinned program and in every row, IS THE sha256 OF THE DUMP (.gsa) THAT YtgafgfmoofjmmaaProg.lean LOADS. Nothing in Lean hashes anything: it is a label: what it is worth is what the hold of that sum in a sandbox is worth. -/
noncomputable def Try.pinned : Pinned := { name := "ytgafgfmoofjmmaa", sum := "60664e865339753c2090436dac6db0b4b215cc0cee0143a8792a65bd3bf286ec", checked := Try.checked }
namespace Rows
def none {H : Type} : Left H := { results := [], args := [] }

/-- 'obollaw07.EdwardsAdds': WHATEVER THE INPUT: true; the input reads as it did. -/
def edwardsAddsSpec : ChangeSpec := { name := "edwardsAdds", fn := fun _ => fun
  | [d1, d2] => { results := [.lit (.bool true)], args := [d1, d2] }
  | _ => none }
def edwardsAddsRow : OpenClaim := { program := "ytgafgfmoofjmmaa", sum := "60664e865339753c2090436dac6db0b4b215cc0cee0143a8792a65bd3bf286ec", func := "obol/obollaw07.EdwardsAdds", spec := "edwardsAdds", named := ["math/bits.divideError", "math/bits.overflowError"], apart := false }
def EdwardsAddsSaid : Prop := edwardsAddsRow.holds Try.pinned (OpenSpec.ofChange edwardsAddsSpec)

/-- ITS FALSE NEIGHBOUR: 'it returns false'. Refute it at one input. -/
def edwardsAddsWrong : ChangeSpec := { name := "edwardsAdds", fn := fun _ => fun
  | [d1, d2] => { results := [.lit (.bool false)], args := [d1, d2] }
  | _ => none }
def EdwardsAddsWrongFalsely : Prop := edwardsAddsRow.holds Try.pinned (OpenSpec.ofChange edwardsAddsWrong)

/-- 'obollaw07.EdwardsMuls': WHATEVER THE INPUT: true; the input reads as it did. -/
def edwardsMulsSpec : ChangeSpec := { name := "edwardsMuls", fn := fun _ => fun
  | [d1, d2] => { results := [.lit (.bool true)], args := [d1, d2] }
  | _ => none }
def edwardsMulsRow : OpenClaim := { program := "ytgafgfmoofjmmaa", sum := "60664e865339753c2090436dac6db0b4b215cc0cee0143a8792a65bd3bf286ec", func := "obol/obollaw07.EdwardsMuls", spec := "edwardsMuls", named := ["math/bits.divideError", "math/bits.overflowError"], apart := false }
def EdwardsMulsSaid : Prop := edwardsMulsRow.holds Try.pinned (OpenSpec.ofChange edwardsMulsSpec)

/-- ITS FALSE NEIGHBOUR: 'it returns false'. Refute it at one input. -/
def edwardsMulsWrong : ChangeSpec := { name := "edwardsMuls", fn := fun _ => fun
  | [d1, d2] => { results := [.lit (.bool false)], args := [d1, d2] }
  | _ => none }
def EdwardsMulsWrongFalsely : Prop := edwardsMulsRow.holds Try.pinned (OpenSpec.ofChange edwardsMulsWrong)

/-- 'obollaw07.EdwardsIs': WHATEVER THE INPUT: true; the input reads as it did. -/
def edwardsIsSpec : ChangeSpec := { name := "edwardsIs", fn := fun _ => fun
  | [d] => { results := [.lit (.bool true)], args := [d] }
  | _ => none }
def edwardsIsRow : OpenClaim := { program := "ytgafgfmoofjmmaa", sum := "60664e865339753c2090436dac6db0b4b215cc0cee0143a8792a65bd3bf286ec", func := "obol/obollaw07.EdwardsIs", spec := "edwardsIs", named := ["math/bits.divideError", "math/bits.overflowError"], apart := false }
def EdwardsIsSaid : Prop := edwardsIsRow.holds Try.pinned (OpenSpec.ofChange edwardsIsSpec)

/-- ITS FALSE NEIGHBOUR: 'it returns false'. Refute it at one input. -/
def edwardsIsWrong : ChangeSpec := { name := "edwardsIs", fn := fun _ => fun
  | [d] => { results := [.lit (.bool false)], args := [d] }
  | _ => none }
def EdwardsIsWrongFalsely : Prop := edwardsIsRow.holds Try.pinned (OpenSpec.ofChange edwardsIsWrong)

/-- 'obollaw06.CipherMarks': WHATEVER THE INPUT: true; the input reads as it did. -/
def cipherMarksSpec : ChangeSpec := { name := "cipherMarks", fn := fun _ => fun
  | [d1, d2] => { results := [.lit (.bool true)], args := [d1, d2] }
  | _ => none }
def cipherMarksRow : OpenClaim := { program := "ytgafgfmoofjmmaa", sum := "60664e865339753c2090436dac6db0b4b215cc0cee0143a8792a65bd3bf286ec", func := "obol/obollaw06.CipherMarks", spec := "cipherMarks", unfollowed := true, recurses := true, apart := false }
def CipherMarksSaid : Prop := cipherMarksRow.holds Try.pinned (OpenSpec.ofChange cipherMarksSpec)

/-- ITS FALSE NEIGHBOUR: 'it returns false'. Refute it at one input. -/
def cipherMarksWrong : ChangeSpec := { name := "cipherMarks", fn := fun _ => fun
  | [d1, d2] => { results := [.lit (.bool false)], args := [d1, d2] }
  | _ => none }
def CipherMarksWrongFalsely : Prop := cipherMarksRow.holds Try.pinned (OpenSpec.ofChange cipherMarksWrong)

/-- 'obollaw06.CipherSeals': WHATEVER THE INPUT: true; the input reads as it did. -/
def cipherSealsSpec : ChangeSpec := { name := "cipherSeals", fn := fun _ => fun
  | [d1, d2, d3, d4] => { results := [.lit (.bool true)], args := [d1, d2, d3, d4] }
  | _ => none }
def cipherSealsRow : OpenClaim := { program := "ytgafgfmoofjmmaa", sum := "60664e865339753c2090436dac6db0b4b215cc0cee0143a8792a65bd3bf286ec", func := "obol/obollaw06.CipherSeals", spec := "cipherSeals", unfollowed := true, recurses := true, apart := false }
def CipherSealsSaid : Prop := cipherSealsRow.holds Try.pinned (OpenSpec.ofChange cipherSealsSpec)

/-- ITS FALSE NEIGHBOUR: 'it returns false'. Refute it at one input. -/
def cipherSealsWrong : ChangeSpec := { name := "cipherSeals", fn := fun _ => fun
  | [d1, d2, d3, d4] => { results := [.lit (.bool false)], args := [d1, d2, d3, d4] }
  | _ => none }
def CipherSealsWrongFalsely : Prop := cipherSealsRow.holds Try.pinned (OpenSpec.ofChange cipherSealsWrong)

/-- 'obollaw06.CipherOpens': WHATEVER THE INPUT: true; the input reads as it did. -/
def cipherOpensSpec : ChangeSpec := { name := "cipherOpens", fn := fun _ => fun
  | [d1, d2, d3, d4] => { results := [.lit (.bool true)], args := [d1, d2, d3, d4] }
  | _ => none }
def cipherOpensRow : OpenClaim := { program := "ytgafgfmoofjmmaa", sum := "60664e865339753c2090436dac6db0b4b215cc0cee0143a8792a65bd3bf286ec", func := "obol/obollaw06.CipherOpens", spec := "cipherOpens", unfollowed := true, recurses := true, apart := false }
def CipherOpensSaid : Prop := cipherOpensRow.holds Try.pinned (OpenSpec.ofChange cipherOpensSpec)

/-- ITS FALSE NEIGHBOUR: 'it returns false'. Refute it at one input. -/
def cipherOpensWrong : ChangeSpec := { name := "cipherOpens", fn := fun _ => fun
  | [d1, d2, d3, d4] => { results := [.lit (.bool false)], args := [d1, d2, d3, d4] }
  | _ => none }
def CipherOpensWrongFalsely : Prop := cipherOpensRow.holds Try.pinned (OpenSpec.ofChange cipherOpensWrong)

/-- 'obollaw06.CipherBack': WHATEVER THE INPUT: true; the input reads as it did. -/
def cipherBackSpec : ChangeSpec := { name := "cipherBack", fn := fun _ => fun
  | [d1, d2, d3, d4, d5, d6] => { results := [.lit (.bool true)], args := [d1, d2, d3, d4, d5, d6] }
  | _ => none }
def cipherBackRow : OpenClaim := { program := "ytgafgfmoofjmmaa", sum := "60664e865339753c2090436dac6db0b4b215cc0cee0143a8792a65bd3bf286ec", func := "obol/obollaw06.CipherBack", spec := "cipherBack", unfollowed := true, recurses := true, apart := false }
def CipherBackSaid : Prop := cipherBackRow.holds Try.pinned (OpenSpec.ofChange cipherBackSpec)

/-- ITS FALSE NEIGHBOUR: 'it returns false'. Refute it at one input. -/
def cipherBackWrong : ChangeSpec := { name := "cipherBack", fn := fun _ => fun
  | [d1, d2, d3, d4, d5, d6] => { results := [.lit (.bool false)], args := [d1, d2, d3, d4, d5, d6] }
  | _ => none }
def CipherBackWrongFalsely : Prop := cipherBackRow.holds Try.pinned (OpenSpec.ofChange cipherBackWrong)

/-- 'obollaw06.CipherStays': WHATEVER THE INPUT: true; the input reads as it did. -/
def cipherStaysSpec : ChangeSpec := { name := "cipherStays", fn := fun _ => fun
  | [d1, d2, d3, d4] => { results := [.lit (.bool true)], args := [d1, d2, d3, d4] }
  | _ => none }
def cipherStaysRow : OpenClaim := { program := "ytgafgfmoofjmmaa", sum := "60664e865339753c2090436dac6db0b4b215cc0cee0143a8792a65bd3bf286ec", func := "obol/obollaw06.CipherStays", spec := "cipherStays", unfollowed := true, recurses := true, apart := false }
def CipherStaysSaid : Prop := cipherStaysRow.holds Try.pinned (OpenSpec.ofChange cipherStaysSpec)

/-- ITS FALSE NEIGHBOUR: 'it returns false'. Refute it at one input. -/
def cipherStaysWrong : ChangeSpec := { name := "cipherStays", fn := fun _ => fun
  | [d1, d2, d3, d4] => { results := [.lit (.bool false)], args := [d1, d2, d3, d4] }
  | _ => none }
def CipherStaysWrongFalsely : Prop := cipherStaysRow.holds Try.pinned (OpenSpec.ofChange cipherStaysWrong)

/-- 'obollaw07.EdwardsReads': WHATEVER THE INPUT: true; the input reads as it did. -/
def edwardsReadsSpec : ChangeSpec := { name := "edwardsReads", fn := fun _ => fun
  | [d] => { results := [.lit (.bool true)], args := [d] }
  | _ => none }
def edwardsReadsRow : OpenClaim := { program := "ytgafgfmoofjmmaa", sum := "60664e865339753c2090436dac6db0b4b215cc0cee0143a8792a65bd3bf286ec", func := "obol/obollaw07.EdwardsReads", spec := "edwardsReads", named := ["math/bits.divideError", "math/bits.overflowError"], apart := false }
def EdwardsReadsSaid : Prop := edwardsReadsRow.holds Try.pinned (OpenSpec.ofChange edwardsReadsSpec)

/-- ITS FALSE NEIGHBOUR: 'it returns false'. Refute it at one input. -/
def edwardsReadsWrong : ChangeSpec := { name := "edwardsReads", fn := fun _ => fun
  | [d] => { results := [.lit (.bool false)], args := [d] }
  | _ => none }
def EdwardsReadsWrongFalsely : Prop := edwardsReadsRow.holds Try.pinned (OpenSpec.ofChange edwardsReadsWrong)

/-- 'obollaw07.EdwardsWrites': WHATEVER THE INPUT: true; the input reads as it did. -/
def edwardsWritesSpec : ChangeSpec := { name := "edwardsWrites", fn := fun _ => fun
  | [d] => { results := [.lit (.bool true)], args := [d] }
  | _ => none }
def edwardsWritesRow : OpenClaim := { program := "ytgafgfmoofjmmaa", sum := "60664e865339753c2090436dac6db0b4b215cc0cee0143a8792a65bd3bf286ec", func := "obol/obollaw07.EdwardsWrites", spec := "edwardsWrites", named := ["math/bits.divideError", "math/bits.overflowError"], apart := false }
def EdwardsWritesSaid : Prop := edwardsWritesRow.holds Try.pinned (OpenSpec.ofChange edwardsWritesSpec)

/-- ITS FALSE NEIGHBOUR: 'it returns false'. Refute it at one input. -/
def edwardsWritesWrong : ChangeSpec := { name := "edwardsWrites", fn := fun _ => fun
  | [d] => { results := [.lit (.bool false)], args := [d] }
  | _ => none }
def EdwardsWritesWrongFalsely : Prop := edwardsWritesRow.holds Try.pinned (OpenSpec.ofChange edwardsWritesWrong)

/-- 'obollaw07.EdwardsStays': WHATEVER THE INPUT: true; the input reads as it did. -/
def edwardsStaysSpec : ChangeSpec := { name := "edwardsStays", fn := fun _ => fun
  | [d1, d2] => { results := [.lit (.bool true)], args := [d1, d2] }
  | _ => none }
def edwardsStaysRow : OpenClaim := { program := "ytgafgfmoofjmmaa", sum := "60664e865339753c2090436dac6db0b4b215cc0cee0143a8792a65bd3bf286ec", func := "obol/obollaw07.EdwardsStays", spec := "edwardsStays", named := ["math/bits.divideError", "math/bits.overflowError"], apart := false }
def EdwardsStaysSaid : Prop := edwardsStaysRow.holds Try.pinned (OpenSpec.ofChange edwardsStaysSpec)

/-- ITS FALSE NEIGHBOUR: 'it returns false'. Refute it at one input. -/
def edwardsStaysWrong : ChangeSpec := { name := "edwardsStays", fn := fun _ => fun
  | [d1, d2] => { results := [.lit (.bool false)], args := [d1, d2] }
  | _ => none }
def EdwardsStaysWrongFalsely : Prop := edwardsStaysRow.holds Try.pinned (OpenSpec.ofChange edwardsStaysWrong)

/-- 'obollaw19.TxWrites': WHATEVER THE INPUT: true; the input reads as it did. -/
def txWritesSpec : ChangeSpec := { name := "txWrites", fn := fun _ => fun
  | [d] => { results := [.lit (.bool true)], args := [d] }
  | _ => none }
def txWritesRow : OpenClaim := { program := "ytgafgfmoofjmmaa", sum := "60664e865339753c2090436dac6db0b4b215cc0cee0143a8792a65bd3bf286ec", func := "obol/obollaw19.TxWrites", spec := "txWrites", unfollowed := true, recurses := true, named := ["math/bits.divideError", "math/bits.overflowError"], apart := false }
def TxWritesSaid : Prop := txWritesRow.holds Try.pinned (OpenSpec.ofChange txWritesSpec)

/-- ITS FALSE NEIGHBOUR: 'it returns false'. Refute it at one input. -/
def txWritesWrong : ChangeSpec := { name := "txWrites", fn := fun _ => fun
  | [d] => { results := [.lit (.bool false)], args := [d] }
  | _ => none }
def TxWritesWrongFalsely : Prop := txWritesRow.holds Try.pinned (OpenSpec.ofChange txWritesWrong)

/-- 'obollaw19.TxReads': WHATEVER THE INPUT: true; the input reads as it did. -/
def txReadsSpec : ChangeSpec := { name := "txReads", fn := fun _ => fun
  | [d] => { results := [.lit (.bool true)], args := [d] }
  | _ => none }
def txReadsRow : OpenClaim := { program := "ytgafgfmoofjmmaa", sum := "60664e865339753c2090436dac6db0b4b215cc0cee0143a8792a65bd3bf286ec", func := "obol/obollaw19.TxReads", spec := "txReads", unfollowed := true, recurses := true, named := ["math/bits.divideError", "math/bits.overflowError"], apart := false }
def TxReadsSaid : Prop := txReadsRow.holds Try.pinned (OpenSpec.ofChange txReadsSpec)

/-- ITS FALSE NEIGHBOUR: 'it returns false'. Refute it at one input. -/
def txReadsWrong : ChangeSpec := { name := "txReads", fn := fun _ => fun
  | [d] => { results := [.lit (.bool false)], args := [d] }
  | _ => none }
def TxReadsWrongFalsely : Prop := txReadsRow.holds Try.pinned (OpenSpec.ofChange txReadsWrong)

/-- 'obollaw19.TxBack': WHATEVER THE INPUT: true; the input reads as it did. -/
def txBackSpec : ChangeSpec := { name := "txBack", fn := fun _ => fun
  | [d1, d2, d3] => { results := [.lit (.bool true)], args := [d1, d2, d3] }
  | _ => none }
def txBackRow : OpenClaim := { program := "ytgafgfmoofjmmaa", sum := "60664e865339753c2090436dac6db0b4b215cc0cee0143a8792a65bd3bf286ec", func := "obol/obollaw19.TxBack", spec := "txBack", unfollowed := true, recurses := true, named := ["math/bits.divideError", "math/bits.overflowError"], apart := false }
def TxBackSaid : Prop := txBackRow.holds Try.pinned (OpenSpec.ofChange txBackSpec)

/-- ITS FALSE NEIGHBOUR: 'it returns false'. Refute it at one input. -/
def txBackWrong : ChangeSpec := { name := "txBack", fn := fun _ => fun
  | [d1, d2, d3] => { results := [.lit (.bool false)], args := [d1, d2, d3] }
  | _ => none }
def TxBackWrongFalsely : Prop := txBackRow.holds Try.pinned (OpenSpec.ofChange txBackWrong)

/-- 'obollaw19.TxStays': WHATEVER THE INPUT: true; the input reads as it did. -/
def txStaysSpec : ChangeSpec := { name := "txStays", fn := fun _ => fun
  | [d1, d2] => { results := [.lit (.bool true)], args := [d1, d2] }
  | _ => none }
def txStaysRow : OpenClaim := { program := "ytgafgfmoofjmmaa", sum := "60664e865339753c2090436dac6db0b4b215cc0cee0143a8792a65bd3bf286ec", func := "obol/obollaw19.TxStays", spec := "txStays", unfollowed := true, recurses := true, named := ["math/bits.divideError", "math/bits.overflowError"], apart := false }
def TxStaysSaid : Prop := txStaysRow.holds Try.pinned (OpenSpec.ofChange txStaysSpec)

/-- ITS FALSE NEIGHBOUR: 'it returns false'. Refute it at one input. -/
def txStaysWrong : ChangeSpec := { name := "txStays", fn := fun _ => fun
  | [d1, d2] => { results := [.lit (.bool false)], args := [d1, d2] }
  | _ => none }
def TxStaysWrongFalsely : Prop := txStaysRow.holds Try.pinned (OpenSpec.ofChange txStaysWrong)

/- THE SECOND FORM. 'bulk': how many values and letters a reading holds, each counted each time it is reached (what is shared counts as often as it is met; a slice's spare places count too). A statement '..UptoSaid' is the law's where the arguments, and the package variables that the reading takes, are together of bulk at most 1048576: NARROWER than '..Said'. Prove '..Said' where nothing that the law and all that it calls make is longer than what came in: it says more and counts as full. Else prove '..UptoSaid'. A law counts once. -/
mutual
def uptoBulk {H : Type} : DataW H → Nat
  | .lit (.string bytes) => bytes.length + 1
  | .lit _ => 1
  | .nil => 1
  | .ptr d => uptoBulk d + 1
  | .slice elems spare => uptoBulkAll elems + uptoBulkAll spare + 1
  | .agg parts => uptoBulkAll parts + 1
  | .iface _ d => uptoBulk d + 1
  | .map entries => uptoBulkEntries entries + 1
  | .held _ => 1
def uptoBulkAll {H : Type} : List (DataW H) → Nat
  | [] => 0
  | d :: r => uptoBulk d + uptoBulkAll r
def uptoBulkEntries {H : Type} : List (Lit × DataW H) → Nat
  | [] => 0
  | x :: r => uptoBulkEntry x + uptoBulkEntries r
def uptoBulkEntry {H : Type} : Lit × DataW H → Nat
  | (.string bytes, d) => bytes.length + uptoBulk d + 1
  | (_, d) => uptoBulk d + 1
 end
def uptoSmall : (H : Type) → List (DataW H) → Bool := fun _ ds => decide (uptoBulkAll ds ≤ 1048576)
def OpenSpec.upto (s : _root_.Go.ChangeSpec) : _root_.Go.OpenSpec := { _root_.Go.OpenSpec.ofChange s with cond := some uptoSmall }

/-- 'obollaw07.EdwardsAdds', WHERE WHAT IT READS IS OF BULK AT MOST 1048576: true; the input reads as it did. -/
def edwardsAddsUptoRow : OpenClaim := { program := "ytgafgfmoofjmmaa", sum := "60664e865339753c2090436dac6db0b4b215cc0cee0143a8792a65bd3bf286ec", func := "obol/obollaw07.EdwardsAdds", spec := "edwardsAdds", named := ["math/bits.divideError", "math/bits.overflowError"], apart := false, narrowed := true }
def EdwardsAddsUptoSaid : Prop := edwardsAddsUptoRow.holds Try.pinned (OpenSpec.upto edwardsAddsSpec)

/-- 'obollaw07.EdwardsMuls', WHERE WHAT IT READS IS OF BULK AT MOST 1048576: true; the input reads as it did. -/
def edwardsMulsUptoRow : OpenClaim := { program := "ytgafgfmoofjmmaa", sum := "60664e865339753c2090436dac6db0b4b215cc0cee0143a8792a65bd3bf286ec", func := "obol/obollaw07.EdwardsMuls", spec := "edwardsMuls", named := ["math/bits.divideError", "math/bits.overflowError"], apart := false, narrowed := true }
def EdwardsMulsUptoSaid : Prop := edwardsMulsUptoRow.holds Try.pinned (OpenSpec.upto edwardsMulsSpec)

/-- 'obollaw07.EdwardsIs', WHERE WHAT IT READS IS OF BULK AT MOST 1048576: true; the input reads as it did. -/
def edwardsIsUptoRow : OpenClaim := { program := "ytgafgfmoofjmmaa", sum := "60664e865339753c2090436dac6db0b4b215cc0cee0143a8792a65bd3bf286ec", func := "obol/obollaw07.EdwardsIs", spec := "edwardsIs", named := ["math/bits.divideError", "math/bits.overflowError"], apart := false, narrowed := true }
def EdwardsIsUptoSaid : Prop := edwardsIsUptoRow.holds Try.pinned (OpenSpec.upto edwardsIsSpec)

/-- 'obollaw06.CipherMarks', WHERE WHAT IT READS IS OF BULK AT MOST 1048576: true; the input reads as it did. -/
def cipherMarksUptoRow : OpenClaim := { program := "ytgafgfmoofjmmaa", sum := "60664e865339753c2090436dac6db0b4b215cc0cee0143a8792a65bd3bf286ec", func := "obol/obollaw06.CipherMarks", spec := "cipherMarks", unfollowed := true, recurses := true, apart := false, narrowed := true }
def CipherMarksUptoSaid : Prop := cipherMarksUptoRow.holds Try.pinned (OpenSpec.upto cipherMarksSpec)

/-- 'obollaw06.CipherSeals', WHERE WHAT IT READS IS OF BULK AT MOST 1048576: true; the input reads as it did. -/
def cipherSealsUptoRow : OpenClaim := { program := "ytgafgfmoofjmmaa", sum := "60664e865339753c2090436dac6db0b4b215cc0cee0143a8792a65bd3bf286ec", func := "obol/obollaw06.CipherSeals", spec := "cipherSeals", unfollowed := true, recurses := true, apart := false, narrowed := true }
def CipherSealsUptoSaid : Prop := cipherSealsUptoRow.holds Try.pinned (OpenSpec.upto cipherSealsSpec)

/-- 'obollaw06.CipherOpens', WHERE WHAT IT READS IS OF BULK AT MOST 1048576: true; the input reads as it did. -/
def cipherOpensUptoRow : OpenClaim := { program := "ytgafgfmoofjmmaa", sum := "60664e865339753c2090436dac6db0b4b215cc0cee0143a8792a65bd3bf286ec", func := "obol/obollaw06.CipherOpens", spec := "cipherOpens", unfollowed := true, recurses := true, apart := false, narrowed := true }
def CipherOpensUptoSaid : Prop := cipherOpensUptoRow.holds Try.pinned (OpenSpec.upto cipherOpensSpec)

/-- 'obollaw06.CipherBack', WHERE WHAT IT READS IS OF BULK AT MOST 1048576: true; the input reads as it did. -/
def cipherBackUptoRow : OpenClaim := { program := "ytgafgfmoofjmmaa", sum := "60664e865339753c2090436dac6db0b4b215cc0cee0143a8792a65bd3bf286ec", func := "obol/obollaw06.CipherBack", spec := "cipherBack", unfollowed := true, recurses := true, apart := false, narrowed := true }
def CipherBackUptoSaid : Prop := cipherBackUptoRow.holds Try.pinned (OpenSpec.upto cipherBackSpec)

/-- 'obollaw06.CipherStays', WHERE WHAT IT READS IS OF BULK AT MOST 1048576: true; the input reads as it did. -/
def cipherStaysUptoRow : OpenClaim := { program := "ytgafgfmoofjmmaa", sum := "60664e865339753c2090436dac6db0b4b215cc0cee0143a8792a65bd3bf286ec", func := "obol/obollaw06.CipherStays", spec := "cipherStays", unfollowed := true, recurses := true, apart := false, narrowed := true }
def CipherStaysUptoSaid : Prop := cipherStaysUptoRow.holds Try.pinned (OpenSpec.upto cipherStaysSpec)

/-- 'obollaw07.EdwardsReads', WHERE WHAT IT READS IS OF BULK AT MOST 1048576: true; the input reads as it did. -/
def edwardsReadsUptoRow : OpenClaim := { program := "ytgafgfmoofjmmaa", sum := "60664e865339753c2090436dac6db0b4b215cc0cee0143a8792a65bd3bf286ec", func := "obol/obollaw07.EdwardsReads", spec := "edwardsReads", named := ["math/bits.divideError", "math/bits.overflowError"], apart := false, narrowed := true }
def EdwardsReadsUptoSaid : Prop := edwardsReadsUptoRow.holds Try.pinned (OpenSpec.upto edwardsReadsSpec)

/-- 'obollaw07.EdwardsWrites', WHERE WHAT IT READS IS OF BULK AT MOST 1048576: true; the input reads as it did. -/
def edwardsWritesUptoRow : OpenClaim := { program := "ytgafgfmoofjmmaa", sum := "60664e865339753c2090436dac6db0b4b215cc0cee0143a8792a65bd3bf286ec", func := "obol/obollaw07.EdwardsWrites", spec := "edwardsWrites", named := ["math/bits.divideError", "math/bits.overflowError"], apart := false, narrowed := true }
def EdwardsWritesUptoSaid : Prop := edwardsWritesUptoRow.holds Try.pinned (OpenSpec.upto edwardsWritesSpec)

/-- 'obollaw07.EdwardsStays', WHERE WHAT IT READS IS OF BULK AT MOST 1048576: true; the input reads as it did. -/
def edwardsStaysUptoRow : OpenClaim := { program := "ytgafgfmoofjmmaa", sum := "60664e865339753c2090436dac6db0b4b215cc0cee0143a8792a65bd3bf286ec", func := "obol/obollaw07.EdwardsStays", spec := "edwardsStays", named := ["math/bits.divideError", "math/bits.overflowError"], apart := false, narrowed := true }
def EdwardsStaysUptoSaid : Prop := edwardsStaysUptoRow.holds Try.pinned (OpenSpec.upto edwardsStaysSpec)

/-- 'obollaw19.TxWrites', WHERE WHAT IT READS IS OF BULK AT MOST 1048576: true; the input reads as it did. -/
def txWritesUptoRow : OpenClaim := { program := "ytgafgfmoofjmmaa", sum := "60664e865339753c2090436dac6db0b4b215cc0cee0143a8792a65bd3bf286ec", func := "obol/obollaw19.TxWrites", spec := "txWrites", unfollowed := true, recurses := true, named := ["math/bits.divideError", "math/bits.overflowError"], apart := false, narrowed := true }
def TxWritesUptoSaid : Prop := txWritesUptoRow.holds Try.pinned (OpenSpec.upto txWritesSpec)

/-- 'obollaw19.TxReads', WHERE WHAT IT READS IS OF BULK AT MOST 1048576: true; the input reads as it did. -/
def txReadsUptoRow : OpenClaim := { program := "ytgafgfmoofjmmaa", sum := "60664e865339753c2090436dac6db0b4b215cc0cee0143a8792a65bd3bf286ec", func := "obol/obollaw19.TxReads", spec := "txReads", unfollowed := true, recurses := true, named := ["math/bits.divideError", "math/bits.overflowError"], apart := false, narrowed := true }
def TxReadsUptoSaid : Prop := txReadsUptoRow.holds Try.pinned (OpenSpec.upto txReadsSpec)

/-- 'obollaw19.TxBack', WHERE WHAT IT READS IS OF BULK AT MOST 1048576: true; the input reads as it did. -/
def txBackUptoRow : OpenClaim := { program := "ytgafgfmoofjmmaa", sum := "60664e865339753c2090436dac6db0b4b215cc0cee0143a8792a65bd3bf286ec", func := "obol/obollaw19.TxBack", spec := "txBack", unfollowed := true, recurses := true, named := ["math/bits.divideError", "math/bits.overflowError"], apart := false, narrowed := true }
def TxBackUptoSaid : Prop := txBackUptoRow.holds Try.pinned (OpenSpec.upto txBackSpec)

/-- 'obollaw19.TxStays', WHERE WHAT IT READS IS OF BULK AT MOST 1048576: true; the input reads as it did. -/
def txStaysUptoRow : OpenClaim := { program := "ytgafgfmoofjmmaa", sum := "60664e865339753c2090436dac6db0b4b215cc0cee0143a8792a65bd3bf286ec", func := "obol/obollaw19.TxStays", spec := "txStays", unfollowed := true, recurses := true, named := ["math/bits.divideError", "math/bits.overflowError"], apart := false, narrowed := true }
def TxStaysUptoSaid : Prop := txStaysUptoRow.holds Try.pinned (OpenSpec.upto txStaysSpec)

end Rows
end Go.Proofs.Ytgafgfmoofjmmaa
