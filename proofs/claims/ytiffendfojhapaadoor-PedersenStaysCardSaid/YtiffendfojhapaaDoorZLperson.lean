import Derived.Test.YtiffendfojhapaaDoorZWup5
import Derived.Laws.Concat
set_option linter.unusedVariables false
set_option linter.unusedSimpArgs false
/- The walk of the law BlakePerson. -/
namespace Obol
theorem getD_zero (p : List Nat) (i : Nat) : (p ++ [0]).getD i 0 = p.getD i 0 := by
  rw [List.getD_eq_getElem?_getD, List.getD_eq_getElem?_getD, List.getElem?_append]
  split
  · rfl
  · rename_i h
    rw [List.getElem?_eq_none (show p.length ≤ i by omega)]
    match h2 : i - p.length with
    | 0 => rfl
    | k + 1 => rfl
theorem initH_zero (p : List Nat) : initH (p ++ [0]) = initH p := by
  unfold initH wordAt
  simp only [getD_zero]
theorem stH_zero (p b : List Nat) : ∀ j, stH (p ++ [0]) b j = stH p b j
  | 0 => initH_zero p
  | j + 1 => by rw [stH, stH, stH_zero p b j]
theorem sumL_zero (p b : List Nat) : sumL (p ++ [0]) b = sumL p b := by unfold sumL; rw [stH_zero]
end Obol
namespace Go.Proofs.YtiffendfojhapaaDoor
open Go.RowKit

theorem OwnB.conv {w : World} {base g cap : Nat} {L : List Nat} (h : OwnB w base (.slice (some ⟨g, 0, none⟩) 32 cap) L) (hl : L.length = 32) :
    (convert 22 9 (.slice (some ⟨g, 0, none⟩) 32 cap)).run Tryd.prog w = .ok (.string (strB L)) w :=
  conv8 (hl ▸ h : OwnB w base (.slice (some ⟨g, 0, none⟩) L.length cap) L).bl hl

end Go.Proofs.YtiffendfojhapaaDoor
