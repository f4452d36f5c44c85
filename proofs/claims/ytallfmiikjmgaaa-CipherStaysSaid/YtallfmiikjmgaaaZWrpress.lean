import Derived.Test.YtallfmiikjmgaaaZWref5b
import Derived.Test.YtallfmiikjmgaaaZWrmix
set_option linter.unusedVariables false
set_option linter.unusedSimpArgs false
/- Walks: the reference of layer 5: a block is pressed. -/
namespace Obol
theorem words_msg (B : List Nat) : wordsOf B 16 = msgL B 0 := by
  unfold wordsOf msgL
  simp only [Nat.zero_add]
theorem rnd_eq (M V : List Nat) (i : Nat) : dias M i 4 (cols M i 4 V) =
    mixL (mixL (mixL (mixL (mixL (mixL (mixL (mixL V 0 4 8 12 (M.getD (rowAt i 0) 0) (M.getD (rowAt i 1) 0)) 1 5 9 13 (M.getD (rowAt i 2) 0) (M.getD (rowAt i 3) 0)) 2 6 10 14 (M.getD (rowAt i 4) 0) (M.getD (rowAt i 5) 0)) 3 7 11 15 (M.getD (rowAt i 6) 0) (M.getD (rowAt i 7) 0))
      0 5 10 15 (M.getD (rowAt i 8) 0) (M.getD (rowAt i 9) 0)) 1 6 11 12 (M.getD (rowAt i 10) 0) (M.getD (rowAt i 11) 0)) 2 7 8 13 (M.getD (rowAt i 12) 0) (M.getD (rowAt i 13) 0)) 3 4 9 14 (M.getD (rowAt i 14) 0) (M.getD (rowAt i 15) 0) := rfl
end Obol
namespace Go.Proofs.Ytallfmiikjmgaaa
open Go.RowKit

theorem cell_setCells {b c j : Nat} (hne : c ≠ b) : ∀ (vs : List Value) (o : Nat) (w : World), (w.setCells b o vs).cell? ⟨c, j, none⟩ = w.cell? ⟨c, j, none⟩
  | [], _, _ => rfl
  | v :: r, o, w => (cell_setCells hne r (o + 1) _).trans (World.cell?_setCell_other w ⟨b, o, none⟩ ⟨c, j, none⟩ v (fun e => hne (by cases e; rfl)))
theorem Row.otherMany {b c : Nat} {cs : Array Value} {t : TypeId} (hne : b ≠ c) : ∀ (vs : List Value) (o : Nat) (w : World), Row w b cs t → Row (w.setCells c o vs) b cs t
  | [], _, _, h => h
  | _ :: r, o, _, h => Row.otherMany hne r (o + 1) _ (h.other hne)

section
end
theorem IL.at {w : World} {b i : Nat} (h : IL w b i) (k : Nat) (hk : k < 16) : ∃ r : Int, w.cell? ⟨b, k, none⟩ = some (.int .i64 r) ∧ r.toNat = Obol.rowAt i k ∧ 0 ≤ r ∧ r < 16 :=
  ⟨_, h k hk, by omega, by omega, by have := Obol.rowAt_lt i k; omega⟩
theorem u32s_n {n : Nat} {L : List Nat} (h : Obol.W32 n L) : (u32s L).size = n := by unfold u32s; simp [h.len]
theorem u32s_one (L : List Nat) : (u32s L).all (·.oneCell') = true := by
  have : (u32s L).toList.toArray.all (·.oneCell') = true := all_oneCell_toArray (by unfold u32s; simp; intro v _; rfl)
  rwa [Array.toArray_toList] at this
theorem und16 : Try.prog.underlying 109 = some (.array 16 65) := by kernel_rfl
theorem siz16 : (Try.prog.info? 109).map (·.size) = some 16 := by kernel_rfl
theorem IL.lt {w : World} {b i : Nat} (h : IL w b i) : b < w.heap.size := World.block_lt_of_cell? w ⟨b, 0, none⟩ (h 0 (by decide))
theorem IL.store {w : World} {b i c o : Nat} {vs : List Value} (h : IL w b i) (hne : b ≠ c) : IL (w.setCells c o vs) b i := fun k hk => (cell_setCells hne _ _ _).trans (h k hk)

end Go.Proofs.Ytallfmiikjmgaaa
