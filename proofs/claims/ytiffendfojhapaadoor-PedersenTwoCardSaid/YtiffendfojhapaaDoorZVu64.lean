import Derived.Test.YtiffendfojhapaaDoorZWped
import Derived.Test.YtiffendfojhapaaDoorMC
set_option linter.unusedVariables false
set_option linter.unusedSimpArgs false
/- An argument of type []uint64, opened once. -/
namespace Go.Proofs.YtiffendfojhapaaDoor
open Go.ChangeShapes Go.WideShapes Go.ChangeAt Go.RowKit

theorem cellsU641' : Tryd.prog.cellsOf 31 = 1 := by kernel_rfl
theorem readU : Tryd.prog.readableRec 58 = true := of_decide_eq_true (by kernel_rfl)

/-- Its numbers, nil or not. -/
theorem viewU {H : Type} {enc : TypeId × Value → H} {W : World} {a0 : Option Addr} {len cap : Nat} {d : DataW H} {p : List MemPlace}
    (h : DataW.Trod enc Tryd.prog W 0 (fun _ => true) true 58 (.slice a0 len cap) d p) :
    ∃ L : List Nat, U64 len L ∧ len ≤ cap ∧ cap ≤ 9223372036854775807 ∧ (a0 = none → len = 0 ∧ cap = 0) ∧ (0 < len → ∃ b o, a0 = some ⟨b, o, none⟩ ∧ UL W b o L) := by
  obtain ⟨fuel, hf⟩ := h
  rcases open_ints Tryd.underlying58 Tryd.underlying31 cellsU641' hf with ⟨hcs, hx⟩ | ⟨a, len', cap', zs, hcs, _, hl, hm, hz, hx, hcell, hwz⟩
  · simp [Value.cells] at hcs
    obtain ⟨rfl, rfl, rfl⟩ := hcs
    exact ⟨[], ⟨rfl, fun i => by simp⟩, Nat.le_refl _, by omega, fun _ => ⟨rfl, rfl⟩, fun h => by omega⟩
  · simp [Value.cells] at hcs
    obtain ⟨rfl, rfl, rfl⟩ := hcs
    simp only [if_true] at hz
    have hw : ∀ n ∈ zs, 0 ≤ n ∧ n < 18446744073709551616 := fun n hn => by have := bounds_u64 (hwz n hn); omega
    have hL : ((zs.take len).map Int.toNat).length = len := by simp; omega
    refine ⟨(zs.take len).map Int.toNat, ⟨hL, fun i => ?_⟩, hl, by unfold maxLen at hm; omega, (fun h => by cases h), fun h0 => ?_⟩
    · rw [List.getD_eq_getElem?_getD, List.getElem?_map]
      cases hi : (zs.take len)[i]? with
      | none => decide
      | some x =>
        have := hw x (List.mem_of_mem_take (List.mem_of_getElem? hi))
        simp
        omega
    · obtain ⟨b, off, spot⟩ := a
      have hspot : spot = none := by simpa [Addr.add] using World.cell?_spot (hcell 0 (by omega))
      subst hspot
      refine ⟨b, off, rfl, fun i hi => ?_⟩
      rw [hL] at hi
      have hc := hcell i (by omega)
      rw [add_plain] at hc
      rw [hc, List.getD_eq_getElem?_getD, List.getD_eq_getElem?_getD, List.getElem?_map, List.getElem?_take, if_pos hi]
      have hi2 : i < zs.length := by omega
      rw [List.getElem?_eq_getElem hi2]
      have := hw _ (List.getElem_mem hi2)
      simp
      omega

theorem slu_of {w : World} {a : Option Addr} {len cap : Nat} {V : List Nat} (H : U64 len V) (hl : len ≤ cap) (hc : cap ≤ 9223372036854775807) (hn : a = none → len = 0 ∧ cap = 0) (hb : 0 < len → ∃ b o, a = some ⟨b, o, none⟩ ∧ UL w b o V) : SlU w.heap.size w a cap V :=
  ⟨by rw [H.len]; exact hl, hc, (fun h => by rw [H.len]; exact hn h), fun h0 => by
    obtain ⟨b, o, h1, h2⟩ := hb (by rw [← H.len]; exact h0)
    exact ⟨b, o, h1, h2.lt h0, h2⟩⟩

end Go.Proofs.YtiffendfojhapaaDoor
