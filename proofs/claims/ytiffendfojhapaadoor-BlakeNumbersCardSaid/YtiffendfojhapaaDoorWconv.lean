import Derived.Test.YtiffendfojhapaaDoorWown
import Derived.Laws.BytesArg
/- Bytes as strings. -/
namespace Go.Proofs.YtiffendfojhapaaDoor
open Go.RowKit

noncomputable def strB (L : List Nat) : ByteArray := strOfNums (L.map fun (n : Nat) => (n : Int))
theorem conv8 {w : World} {b o cap n : Nat} {L : List Nat} (h : BL w b o L) (hn : L.length = n) :
    (convert 22 9 (.slice (some ⟨b, o, none⟩) n cap)).run Tryd.prog w = .ok (.string (strB L)) w :=
  run_convert_bytes_arg (P := Tryd.prog) w 22 5 Tryd.underlying22 Tryd.underlying5 b o n cap (L.map fun (n : Nat) => (n : Int)) (by simp [hn])
    (fun i hi => by
      rw [h i (by omega), List.getD_eq_getElem?_getD, List.getD_eq_getElem?_getD, List.getElem?_map]
      cases L[i]? <;> rfl) 9 Tryd.underlying9
theorem conv0 (w : World) (ao : Option Addr) (c : Nat) :
    (convert 22 9 (.slice ao 0 c)).run Tryd.prog w = .ok (.string (strB [])) w := by
  cases ao with
  | none => exact run_convert_bytes_nil w 22 5 Tryd.underlying22 Tryd.underlying5 0 c 9 Tryd.underlying9
  | some ad =>
    rw [run_convert_bytes_string w 22 9 5 _ 0 c Tryd.underlying22 Tryd.underlying5 Tryd.underlying9,
      run_bytesToString w ad 0 c [] (run_loadCells_list w ad [] (fun j v h => by cases h))]
    rfl
theorem convAny {w : World} {ao : Option Addr} {len cap : Nat} {L : List Nat} (hn : L.length = len) (h : 0 < len → ∃ b o, ao = some ⟨b, o, none⟩ ∧ BL w b o L) :
    (convert 22 9 (.slice ao len cap)).run Tryd.prog w = .ok (.string (strB L)) w := by
  by_cases h0 : 0 < len
  · obtain ⟨b, o, rfl, hb⟩ := h h0
    exact conv8 hb hn
  · obtain rfl : len = 0 := by omega
    obtain rfl : L = [] := List.length_eq_zero_iff.1 hn
    exact conv0 w ao cap

end Go.Proofs.YtiffendfojhapaaDoor
