import Derived.Test.YtallfmiikjmgaaaDoorRows
import Derived.Test.YtallfmiikjmgaaaDoorZWpress
import Derived.ProofKit
import Derived.LaidMore
import Derived.OpenShut
import Derived.Stop.Joined
set_option linter.unusedVariables false
set_option linter.unusedSimpArgs false
/- What the listed variable's reading gives the walks; and that the door's own heap meets it. -/
namespace Go.Proofs.YtallfmiikjmgaaaDoor
open Go.ChangeShapes Go.WideShapes Go.ChangeAt Go.WideMaps Go.WideElems Go.RowKit

abbrev laidB : List (String × DataW Unit) := [("obol/blake.rows", Rows.laid_obol_blake_rows)]
theorem laid_is : (Rows.laid_obol_blake_rows : DataW Unit) = .agg (Obol.rowsL.map fun l => .agg (l.map fun (x : Nat) => .lit (.int .i64 (x : Int)))) := rfl
theorem gRows : Tryd.prog.globalNamed "obol/blake.rows" = some 0 := by kernel_rfl
theorem tRows : (Tryd.prog.globals[0]?).map (·.type) = some 124 := by kernel_rfl
theorem c160 : Tryd.prog.cellsOf 124 = 160 := by kernel_rfl
theorem c16 : Tryd.prog.cellsOf 123 = 16 := by kernel_rfl
theorem c1 : Tryd.prog.cellsOf 3 = 1 := by kernel_rfl

theorem rows_of_laid {W : World} (h : laidMetH Tryd.prog laidB W) : RowsAt W := by
  rw [MakeChecks.laidMetH_plain _ _ _ (by kernel_rfl)] at h
  obtain ⟨ps, ⟨g0, t0, cs0, f0, p0, q0, hg0, ht0, hv0, hd0, _, _⟩, _, _⟩ := h
  obtain rfl := Option.some.inj (gRows.symm.trans hg0)
  obtain rfl := Option.some.inj (tRows.symm.trans ht0)
  obtain ⟨xs, m, _, hx, hlen, hn, hel⟩ := DataW.trod_array Tryd.underlying124 hd0
  rw [laid_is] at hx
  simp only [Prod.mk.injEq, DataW.agg.injEq] at hx
  have hx1 := hx.1
  have main : ∀ i k : Nat, i < 10 → k < 16 → W.cell? ⟨0, i * 16 + k, none⟩ = some (.int .i64 ((Obol.rowAt i k : Nat) : Int)) := by
    intro i k hi hk
    have hrl : Obol.rowsL.length = 10 := rfl
    have hi2 : i < xs.length := by omega
    have h1 := hel i hi
    rw [List.getElem?_eq_getElem hi2] at h1
    have e1 : (xs[i]).1 = .agg ((Obol.rowsL.getD i []).map fun (x : Nat) => .lit (.int .i64 (x : Int))) := by
      have := congrArg (·[i]?) hx1
      simp only [List.getElem?_map] at this
      rw [List.getElem?_eq_getElem hi2, List.getElem?_eq_getElem (by omega : i < Obol.rowsL.length)] at this
      rw [List.getD_eq_getElem?_getD, List.getElem?_eq_getElem (by omega : i < Obol.rowsL.length)]
      simpa using this.symm
    obtain ⟨ys, m2, _, hy, hlen2, hn2, hel2⟩ := DataW.trod_array Tryd.underlying123 h1
    have hy1 : (xs[i]).1 = .agg (ys.map (·.1)) := by rw [hy]
    rw [e1, DataW.agg.injEq] at hy1
    have hk2 : k < ys.length := by omega
    have h2 := hel2 k hk
    rw [List.getElem?_eq_getElem hk2, c1] at h2
    have hl16 : (Obol.rowsL.getD i []).length = 16 := by
      have := congrArg List.length hy1
      simp only [List.length_map] at this
      omega
    have e2 : (ys[k]).1 = .lit (.int .i64 ((Obol.rowAt i k : Nat) : Int)) := by
      have := congrArg (·[k]?) hy1
      simp only [List.getElem?_map] at this
      rw [List.getElem?_eq_getElem hk2, List.getElem?_eq_getElem (by omega : k < (Obol.rowsL.getD i []).length)] at this
      unfold Obol.rowAt
      rw [List.getD_eq_getElem?_getD (l := Obol.rowsL.getD i []), List.getElem?_eq_getElem (by omega : k < (Obol.rowsL.getD i []).length)]
      simpa using this.symm
    obtain ⟨r, e3, e4, _⟩ := DataW.trod_int Tryd.underlying3 h2
    have e5 : (ys[k]).1 = .lit (.int .i64 r) := by rw [e4]
    rw [e2] at e5
    have hr : r = ((Obol.rowAt i k : Nat) : Int) := by
      have := DataW.lit.inj e5
      simpa using this.symm
    rw [World.var?_cell hg0 hv0 (i * 16 + k)]
    rw [c16, Nat.mul_one] at e3
    have h6 := congrArg (·[0]?) e3
    simp only [List.getElem?_take, List.getElem?_drop, List.getElem?_cons_zero] at h6
    rw [if_pos (by omega), if_pos (by omega), Nat.add_zero, Array.getElem?_toList] at h6
    rw [h6, hr]
  exact ⟨World.block_lt_of_cell? W ⟨0, 0 * 16 + 0, none⟩ (main 0 0 (by decide) (by decide)), main⟩

/-- The door's own heap meets the condition. -/
theorem door_met (os : Os) (args : Array Value) : laidMetH Tryd.prog laidB ((World.doorLaid Tryd.prog 400 os).forCall (fun _ _ => 0) ⟨#[], args, []⟩).memory :=
  laidMetH_of_parts3 (fuel := 8) (laidMet_of_run' 8 (by kernel_rfl) (by kernel_rfl)) (by kernel_rfl) (by kernel_rfl)

end Go.Proofs.YtallfmiikjmgaaaDoor
