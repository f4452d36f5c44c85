import Derived.Test.YtiffendfojhapaaDoorWbyte
import Derived.ProofKit
import Derived.OpenShut
import Derived.ChangeSlices
import Derived.SizedLaws
import Derived.Carry
/- An argument of type []byte, opened once. -/
namespace Go.Proofs.YtiffendfojhapaaDoor
open Go.ChangeShapes Go.WideShapes Go.ChangeAt Go.RowKit

theorem cellsU8 : Tryd.prog.cellsOf 5 = 1 := by kernel_rfl
theorem laidOutA : laidOutB Tryd.prog = true := by kernel_rfl
theorem readB : Tryd.prog.readableRec 22 = true := of_decide_eq_true (by kernel_rfl)

/-- Its bytes, nil or not. -/
theorem viewB {H : Type} {enc : TypeId × Value → H} {W : World} {a0 : Option Addr} {len cap : Nat} {d : DataW H} {p : List MemPlace}
    (h : DataW.Trod enc Tryd.prog W 0 (fun _ => true) true 22 (.slice a0 len cap) d p) :
    ∃ L : List Nat, B8 len L ∧ len ≤ cap ∧ cap ≤ 9223372036854775807 ∧ (a0 = none → len = 0 ∧ cap = 0) ∧ (0 < len → ∃ b o, a0 = some ⟨b, o, none⟩ ∧ BL W b o L) := by
  obtain ⟨fuel, hf⟩ := h
  rcases open_ints Tryd.underlying22 Tryd.underlying5 cellsU8 hf with ⟨hcs, hx⟩ | ⟨a, len', cap', zs, hcs, _, hl, hm, hz, hx, hcell, hwz⟩
  · simp [Value.cells] at hcs
    obtain ⟨rfl, rfl, rfl⟩ := hcs
    exact ⟨[], ⟨rfl, fun i => by simp⟩, Nat.le_refl _, by omega, fun _ => ⟨rfl, rfl⟩, fun h => by omega⟩
  · simp [Value.cells] at hcs
    obtain ⟨rfl, rfl, rfl⟩ := hcs
    simp only [if_true] at hz
    have hw : ∀ n ∈ zs, 0 ≤ n ∧ n ≤ 255 := fun n hn => by have := bounds_u8 (hwz n hn); omega
    have hL : ((zs.take len).map Int.toNat).length = len := by simp; omega
    refine ⟨(zs.take len).map Int.toNat, ⟨hL, fun i => ?_⟩, hl, by unfold maxLen at hm; omega, (fun h => by cases h), fun h0 => ?_⟩
    · rw [List.getD_eq_getElem?_getD, List.getElem?_map]
      cases hi : (zs.take len)[i]? with
      | none => decide
      | some x =>
        have := hw x (List.mem_of_mem_take (List.mem_of_getElem? hi))
        simp
        omega
    · obtain ⟨b, off, spot⟩ := a
      have hspot : spot = none := by simpa [Addr.add] using World.cell?_spot (hcell 0 (by omega))
      subst hspot
      refine ⟨b, off, rfl, fun i hi => ?_⟩
      rw [hL] at hi
      have hc := hcell i (by omega)
      rw [add_plain] at hc
      rw [hc, List.getD_eq_getElem?_getD, List.getD_eq_getElem?_getD, List.getElem?_map, List.getElem?_take, if_pos hi]
      have hi2 : i < zs.length := by omega
      rw [List.getElem?_eq_getElem hi2]
      have := hw _ (List.getElem_mem hi2)
      simp
      omega

theorem bytesU8 : Tryd.prog.bytesOf 5 = 1 := by kernel_rfl
theorem viewSize {H : Type} {enc : TypeId × Value → H} {W : World} {a0 : Option Addr} {len cap : Nat} {d : DataW H} {p : List MemPlace}
    (h : DataW.Trod enc Tryd.prog W 0 (fun _ => true) true 22 (.slice a0 len cap) d p) : (d = .nil ∧ cap = 0) ∨ ∃ es sp, d = .slice es sp ∧ es.length + sp.length = cap := by
  obtain ⟨fuel, hf⟩ := h
  rcases open_ints Tryd.underlying22 Tryd.underlying5 cellsU8 hf with ⟨hcs, hx⟩ | ⟨a, len', cap', zs, hcs, _, hl, hm, hz, hx, hcell, hwz⟩
  · simp [Value.cells] at hcs
    simp only [Prod.mk.injEq] at hx
    exact Or.inl ⟨hx.1, hcs.2.2⟩
  · simp [Value.cells] at hcs
    obtain ⟨rfl, rfl, rfl⟩ := hcs
    simp only [Prod.mk.injEq] at hx
    simp only [if_true] at hz
    exact Or.inr ⟨_, _, hx.1, by simp [lits]; omega⟩

end Go.Proofs.YtiffendfojhapaaDoor
