import Derived.Test.YtiffendfojhapaaDoorZWsum
import Derived.Test.YtiffendfojhapaaDoorMC
set_option linter.unusedVariables false
set_option linter.unusedSimpArgs false
/- Walks: the head of the statements of layer 5; the law BlakePerson. -/
namespace Go.Proofs.YtiffendfojhapaaDoor
open Go.RowKit

theorem sumL_len (p b : List Nat) (hp : ∀ i, p.getD i 0 < 256) : (Obol.sumL p b).length = 32 := by
  unfold Obol.sumL
  rw [wordsB_len, (stH_w hp b _).len]
theorem bytes4_lt (x : Nat) : ∀ y ∈ Obol.bytes4 x, y < 256 := by
  intro y hy
  simp only [Obol.bytes4, List.mem_cons, List.not_mem_nil, or_false] at hy
  omega
theorem wordsB_lt (l : List Nat) : ∀ y ∈ Obol.wordsB l, y < 256 := by
  intro y hy
  unfold Obol.wordsB at hy
  obtain ⟨x, _, h⟩ := List.mem_flatMap.1 hy
  exact bytes4_lt x y h
theorem sumL_b8 (p b : List Nat) (hp : ∀ i, p.getD i 0 < 256) : B8 32 (Obol.sumL p b) := by
  have h := B8.of (wordsB_lt (Obol.stH p b (Obol.nBlocks b.length)))
  have e := sumL_len p b hp
  unfold Obol.sumL at *
  exact ⟨e, h.lt⟩

/-- The digest as the callers take it. -/
theorem bSum2 (s : ByteArray) (hs : s.size ≤ 8) (ao : Option Addr) (len cap : Nat) (L : List Nat) (H : B8 len L) (w : World) (hS : SlI w.heap.size w ao cap L) (hG : RowsAt w) :
    Calls Tryd.prog 16 #[.string s, .slice ao len cap] w fun e w' => ∃ g cap2, e = .returned (.tuple #[.slice (some ⟨g, 0, none⟩) 32 cap2, .nilIface]) ∧ w.heap.size ≤ g ∧ OwnB w' w.heap.size (.slice (some ⟨g, 0, none⟩) 32 cap2) (Obol.sumL (strL s) L) ∧ Below w.heap.size w w' := by
  refine (bSum s hs ao len cap L H w hS hG).mono ?_
  rintro e w' ⟨v, rfl, hO, hB⟩
  have hl := sumL_len (strL s) L (strL_lt s)
  obtain ⟨g, cap2, cur, rfl, hg, -, -, -, -, -⟩ := hO.size (by rw [hl]; decide)
  rw [hl] at *
  exact ⟨g, cap2, rfl, hg, hO, hB⟩

/-- The world behind a conversion of a literal: the row's mark. -/
theorem conv_lit (W : World) (g n : Nat) (cs : Array Value) (R : Row W g cs 5) :
    (convert 22 22 (.slice (some ⟨g, 0, none⟩) n n)).run Tryd.prog W = .ok (.slice (some ⟨g, 0, none⟩) n n) (W.freeze ⟨g, cs.size, none⟩ 1) := by
  have hsh : W.shape? g = some (5, cs.size) := by
    have h : W.heap[g]? = some (.cells cs 5 (0, 0)) := R
    simp [World.shape?, h]
  simp [convert, run_underlying Tryd.underlying22, run_underlying Tryd.underlying5, markStringish, hsh, Result.andThen]
theorem bFreeze {B : Nat} {a w : World} (h : Below B a w) {g : Nat} (hg : B ≤ g) (o n : Nat) : Below B a (w.freeze ⟨g, o, none⟩ n) := by
  unfold World.freeze
  split
  · exact h
  · exact ⟨h.os, h.tape, h.output, by simpa using h.size, fun k hk => by
      rw [← h.block k hk]
      simp only [Array.getElem?_modify]
      rw [if_neg (by omega)]⟩
theorem cell_freeze (w : World) (a p : Addr) (n : Nat) : (w.freeze a n).cell? p = w.cell? p := by
  unfold World.freeze
  split
  · rfl
  · simp only [World.cell?, Array.getElem?_modify]
    by_cases hb : a.block = p.block
    · rw [if_pos hb]
      cases h : w.heap[p.block]? with
      | none => rfl
      | some o => cases o <;> rfl
    · rw [if_neg hb]
theorem size_freeze (w : World) (a : Addr) (n : Nat) : (w.freeze a n).heap.size = w.heap.size := by
  unfold World.freeze
  split
  · rfl
  · simp
abbrev abc : Array Value := #[.int .u8 97, .int .u8 98, .int .u8 99]
theorem strL_nil : strL { data := #[] } = [] := rfl

theorem up5 (w : World) (hG : RowsAt w) :
    Calls Tryd.prog 15 #[] w fun e w' => e = .returned (.bool true) ∧ Below w.heap.size w w' := by
  have R := Row.new w abc 5
  have hcs := conv_lit (w.alloc (.cells abc 5)) w.heap.size 3 abc R
  have hz : ((w.alloc (.cells abc 5)).freeze ⟨w.heap.size, 3, none⟩ 1).heap.size = w.heap.size + 1 := by rw [size_freeze]; simp
  have hB0 : Below w.heap.size w ((w.alloc (.cells abc 5)).freeze ⟨w.heap.size, 3, none⟩ 1) := bFreeze (bAlloc (Below.refl _ _) _) (Nat.le_refl _) _ _
  have hbl : BL ((w.alloc (.cells abc 5)).freeze ⟨w.heap.size, 3, none⟩ 1) w.heap.size 0 [97, 98, 99] := fun i hi => by
    rw [cell_freeze]
    exact (show Row _ _ (u8s [97, 98, 99]) _ from R).bl i hi
  have hS : SlI ((w.alloc (.cells abc 5)).freeze ⟨w.heap.size, 3, none⟩ 1).heap.size ((w.alloc (.cells abc 5)).freeze ⟨w.heap.size, 3, none⟩ 1) (some ⟨w.heap.size, 0, none⟩) 3 [97, 98, 99] :=
    ⟨by decide, by decide, (fun h => by cases h), fun _ => ⟨_, _, rfl, by omega, hbl⟩⟩
  have hlt : ∀ x ∈ [97, 98, 99], x < 256 := by decide
  have cS := bSum2 { data := #[] } (by decide) (some ⟨w.heap.size, 0, none⟩) 3 3 [97, 98, 99] (B8.of hlt) _ hS (hG.below hB0)
  replace hB0 := Lib.hid hB0
  rw [strL_nil] at cS
  have hv := Obol.sumL_abc
  have hlen : (Obol.sumL [] [97, 98, 99]).length = 32 := sumL_len [] _ (fun i => by simp)
  obtain ⟨hv0, hv1, hv2⟩ := hv
  generalize Obol.sumL [] [97, 98, 99] = D at cS hv0 hv1 hv2 hlen
  replace hlen := Lib.hid hlen
  replace hv0 := Lib.hid hv0
  replace hv1 := Lib.hid hv1
  replace hv2 := Lib.hid hv2
  replace cS := Lib.hid cS
  replace hz := Lib.hid hz
  clear hS R hbl
  go_enter Tryd.func15, Tryd.ntmps15
  go_wp2_with fail
  refine cS.out.mono ?_
  rintro e w2 ⟨g, cap2, rfl, hg, hO, hB⟩
  have hb := (hlen.out ▸ hO : OwnB w2 _ (.slice (some ⟨g, 0, none⟩) D.length cap2) D).bl
  have c0 := hb 0 (by rw [hlen.out]; decide)
  have c1 := hb 1 (by rw [hlen.out]; decide)
  have c31 := hb 31 (by rw [hlen.out]; decide)
  rw [hv0.out] at c0
  rw [hv1.out] at c1
  rw [hv2.out] at c31
  have B := Lib.hid (bThen hB0.out hB hB0.out.size)
  clear hb hO hB
  go_wp2_with fail
  go_ret
  exact ⟨rfl, B.out⟩

end Go.Proofs.YtiffendfojhapaaDoor
