import Derived.Test.YtallfmiikjmgaaaDoorZWsum
import Derived.Test.YtallfmiikjmgaaaDoorMC
set_option linter.unusedVariables false
set_option linter.unusedSimpArgs false
/- Walks: the head of the statements of layer 5; the law BlakePerson. -/
namespace Go.Proofs.YtallfmiikjmgaaaDoor
open Go.RowKit

theorem sumL_len (p b : List Nat) (hp : ∀ i, p.getD i 0 < 256) : (Obol.sumL p b).length = 32 := by
  unfold Obol.sumL
  rw [wordsB_len, (stH_w hp b _).len]
theorem bytes4_lt (x : Nat) : ∀ y ∈ Obol.bytes4 x, y < 256 := by
  intro y hy
  simp only [Obol.bytes4, List.mem_cons, List.not_mem_nil, or_false] at hy
  omega
theorem wordsB_lt (l : List Nat) : ∀ y ∈ Obol.wordsB l, y < 256 := by
  intro y hy
  unfold Obol.wordsB at hy
  obtain ⟨x, _, h⟩ := List.mem_flatMap.1 hy
  exact bytes4_lt x y h
theorem sumL_b8 (p b : List Nat) (hp : ∀ i, p.getD i 0 < 256) : B8 32 (Obol.sumL p b) := by
  have h := B8.of (wordsB_lt (Obol.stH p b (Obol.nBlocks b.length)))
  have e := sumL_len p b hp
  unfold Obol.sumL at *
  exact ⟨e, h.lt⟩

/-- The digest as the callers take it. -/
theorem bSum2 (s : ByteArray) (hs : s.size ≤ 8) (ao : Option Addr) (len cap : Nat) (L : List Nat) (H : B8 len L) (w : World) (hS : SlI w.heap.size w ao cap L) (hG : RowsAt w) :
    Calls Tryd.prog 64 #[.string s, .slice ao len cap] w fun e w' => ∃ g cap2, e = .returned (.tuple #[.slice (some ⟨g, 0, none⟩) 32 cap2, .nilIface]) ∧ w.heap.size ≤ g ∧ OwnB w' w.heap.size (.slice (some ⟨g, 0, none⟩) 32 cap2) (Obol.sumL (strL s) L) ∧ Below w.heap.size w w' := by
  refine (bSum s hs ao len cap L H w hS hG).mono ?_
  rintro e w' ⟨v, rfl, hO, hB⟩
  have hl := sumL_len (strL s) L (strL_lt s)
  obtain ⟨g, cap2, cur, rfl, hg, -, -, -, -, -⟩ := hO.size (by rw [hl]; decide)
  rw [hl] at *
  exact ⟨g, cap2, rfl, hg, hO, hB⟩

/-- The world behind a conversion of a literal: the row's mark. -/
theorem conv_lit (W : World) (g n : Nat) (cs : Array Value) (R : Row W g cs 5) :
    (convert 42 42 (.slice (some ⟨g, 0, none⟩) n n)).run Tryd.prog W = .ok (.slice (some ⟨g, 0, none⟩) n n) (W.freeze ⟨g, cs.size, none⟩ 1) := by
  have hsh : W.shape? g = some (5, cs.size) := by
    have h : W.heap[g]? = some (.cells cs 5 (0, 0)) := R
    simp [World.shape?, h]
  simp [convert, run_underlying Tryd.underlying42, run_underlying Tryd.underlying5, markStringish, hsh, Result.andThen]
theorem bFreeze {B : Nat} {a w : World} (h : Below B a w) {g : Nat} (hg : B ≤ g) (o n : Nat) : Below B a (w.freeze ⟨g, o, none⟩ n) := by
  unfold World.freeze
  split
  · exact h
  · exact ⟨h.os, h.tape, h.output, by simpa using h.size, fun k hk => by
      rw [← h.block k hk]
      simp only [Array.getElem?_modify]
      rw [if_neg (by omega)]⟩
theorem cell_freeze (w : World) (a p : Addr) (n : Nat) : (w.freeze a n).cell? p = w.cell? p := by
  unfold World.freeze
  split
  · rfl
  · simp only [World.cell?, Array.getElem?_modify]
    by_cases hb : a.block = p.block
    · rw [if_pos hb]
      cases h : w.heap[p.block]? with
      | none => rfl
      | some o => cases o <;> rfl
    · rw [if_neg hb]
theorem size_freeze (w : World) (a : Addr) (n : Nat) : (w.freeze a n).heap.size = w.heap.size := by
  unfold World.freeze
  split
  · rfl
  · simp
abbrev abc : Array Value := #[.int .u8 97, .int .u8 98, .int .u8 99]
theorem strL_nil : strL { data := #[] } = [] := rfl

end Go.Proofs.YtallfmiikjmgaaaDoor
