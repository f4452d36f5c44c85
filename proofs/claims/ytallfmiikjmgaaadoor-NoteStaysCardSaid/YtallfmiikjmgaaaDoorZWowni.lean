import Derived.Test.YtallfmiikjmgaaaDoorMF
import Derived.Test.YtallfmiikjmgaaaDoorZWcopy
import Derived.Test.YtallfmiikjmgaaaDoorME
set_option linter.unusedVariables false
set_option linter.unusedSimpArgs false
/- Slices of ints of the call's own. -/
namespace Go.Proofs.YtallfmiikjmgaaaDoor
open Go.RowKit

abbrev I64 (L : List Nat) : List Value := L.map fun (n : Nat) => Value.int .i64 (n : Int)
def OwnI (w : World) (base : Nat) (v : Value) (L : List Nat) : Prop := w.ownsRow base 3 1 v L.length (I64 L)
theorem OwnI.of {w : World} {base g n : Nat} {L : List Nat} (h : Row w g (i64s L) 3) (hn : L.length = n) (hb : base ≤ g) (hl : n ≤ 1000000) : OwnI w base (.slice (some ⟨g, 0, none⟩) n n) L := by
  subst hn
  exact ⟨by simp, .inr ⟨g, L.length, i64s L, rfl, hb, h, Nat.le_refl _, by unfold maxLen; omega, by simp [i64s], by simp [i64s, I64, List.take_of_length_le]⟩⟩
theorem ownI_len {w : World} {base g n cap : Nat} {L : List Nat} (h : OwnI w base (.slice (some ⟨g, 0, none⟩) n cap) L) : L.length = n := by
  rcases h.2 with ⟨h, _⟩ | ⟨g', cap', cur, h1, _⟩
  · cases h
  · simp only [Value.slice.injEq] at h1; exact h1.2.1.symm
theorem ownI_dl {w : World} {base g n cap : Nat} {L : List Nat} (h : OwnI w base (.slice (some ⟨g, 0, none⟩) n cap) L) : DL w g 0 L := fun i hi => by
  have hn := ownI_len h
  subst hn
  rw [Nat.zero_add, World.ownsRow.cellAt h i (by omega)]
  simp only [List.getElem?_map, List.getElem?_eq_getElem hi, List.getD_eq_getElem?_getD]
  rfl
theorem ownI_lt {w : World} {base g n cap : Nat} {L : List Nat} (h : OwnI w base (.slice (some ⟨g, 0, none⟩) n cap) L) : g < w.heap.size := (World.ownsRow.lt h g rfl).2
theorem ownI_ge {w : World} {base g n cap : Nat} {L : List Nat} (h : OwnI w base (.slice (some ⟨g, 0, none⟩) n cap) L) : base ≤ g := (World.ownsRow.lt h g rfl).1
theorem ownI_cell {w : World} {base g n cap : Nat} {L : List Nat} (h : OwnI w base (.slice (some ⟨g, 0, none⟩) n cap) L) (i : Nat) (hi : i < n) : w.cell? ⟨g, i, none⟩ = some (.int .i64 ((L.getD i 0 : Nat) : Int)) := by
  have := ownI_dl h i (by rw [ownI_len h]; exact hi)
  rwa [Nat.zero_add] at this
theorem ownI_free {w : World} {base g n cap : Nat} {L : List Nat} (h : OwnI w base (.slice (some ⟨g, 0, none⟩) n cap) L) (j : Nat) : w.frozen? ⟨g, j, none⟩ = false := by
  have hn := ownI_len h
  subst hn
  exact World.ownsRow.frozenAt h j
theorem ownI_set {w : World} {base g n cap : Nat} {L : List Nat} (h : OwnI w base (.slice (some ⟨g, 0, none⟩) n cap) L) (j Z : Nat) {z : Int} (hz : z = (Z : Int)) :
    OwnI (w.setCell ⟨g, j, none⟩ (.int .i64 z)) base (.slice (some ⟨g, 0, none⟩) n cap) (L.set j Z) := by
  have hn := ownI_len h
  subst hn hz
  have h2 := (World.ownsRow.stored h j (.int .i64 ((Z : Nat) : Int))).1
  unfold OwnI
  rw [List.length_set, I64, List.map_set]
  exact h2
theorem OwnI.below {w w' : World} {base : Nat} {v : Value} {L : List Nat} (h : OwnI w base v L) (hb : Below w.heap.size w w') : OwnI w' base v L := by
  refine ⟨h.1, ?_⟩
  rcases h.2 with h | ⟨g, cap, cur, h1, h2, h3, h4⟩
  · exact .inl h
  · exact .inr ⟨g, cap, cur, h1, h2, (hb.block g (Array.getElem?_eq_some_iff.1 h3).1).trans h3, h4⟩
theorem OwnI.drew {w : World} {base : Nat} {v : Value} {L : List Nat} (h : OwnI w base v L) : OwnI w.drew base v L := h
theorem OwnI.base {w : World} {base base' : Nat} {v : Value} {L : List Nat} (h : OwnI w base v L) (hb : base' ≤ base) : OwnI w base' v L := by
  refine ⟨h.1, ?_⟩
  rcases h.2 with h | ⟨g, cap, cur, h1, h2, h3⟩
  · exact .inl h
  · exact .inr ⟨g, cap, cur, h1, by omega, h3⟩
theorem ownI_other {w : World} {base g n cap b o : Nat} {u : Value} {L : List Nat} (h : OwnI w base (.slice (some ⟨g, 0, none⟩) n cap) L) (hne : g ≠ b) : OwnI (w.setCell ⟨b, o, none⟩ u) base (.slice (some ⟨g, 0, none⟩) n cap) L := by
  refine ⟨h.1, ?_⟩
  rcases h.2 with h | ⟨g', cap', cur, h1, h2, h3, h4⟩
  · exact .inl h
  · refine .inr ⟨g', cap', cur, h1, h2, ?_, h4⟩
    simp only [Value.slice.injEq, Option.some.injEq, Addr.mk.injEq, and_true] at h1
    rw [← h1.1]
    rw [← h1.1] at h3
    exact (heap_setCell_other w ⟨b, o, none⟩ g u hne).trans h3
/-- 'append([]int{}, l...)' -/
theorem append_copyI (W : World) (b o len cap : Nat) (L : List Nat) (H : L.length = len) (hl : len ≤ 1000000) (h0 : 0 < len) (hD : DL W b o L) :
    ∃ g cap2 W', (∀ ty, (Builtin.append_ #[110, 110] ty #[.slice (some ⟨W.heap.size, 0, none⟩) 0 0, .slice (some ⟨b, o, none⟩) len cap]).run Tryd.prog (W.alloc (.cells #[] 3)) = .ok (.slice (some ⟨g, 0, none⟩) len cap2) W') ∧
      OwnI W' W.heap.size (.slice (some ⟨g, 0, none⟩) len cap2) L ∧ Below W.heap.size W W' := by
  subst H
  have he : OwnI (W.alloc (.cells #[] 3)) W.heap.size (.slice (some ⟨W.heap.size, 0, none⟩) 0 0) [] := World.ownsRow_made W #[] 0 (Nat.le_refl _) (by decide) rfl
  have hlt : b < W.heap.size := World.block_lt_of_cell? W ⟨b, o + 0, none⟩ (hD 0 h0)
  have hD2 := hD.below (B := W.heap.size) (bAlloc (Below.refl _ _) (.cells #[] 3)) hlt
  obtain ⟨ti, hti, htz, hts, htb⟩ := info_partsI infoI
  obtain ⟨v', W', hr, ho, hg, hn⟩ := run_append_own (W.alloc (.cells #[] 3)) W.heap.size 110 0 3 ti (.int .i64 0) 1 8 Tryd.underlying110 hti htz hts htb rfl (by decide) _ ([] : List Nat).length (I64 []) he ⟨b, o, none⟩ L.length cap (I64 L) (by simp)
    (fun j u hu => by
      have hj : j < L.length := by have := (List.getElem?_eq_some_iff.1 hu).1; simpa using this
      rw [addB, hD2 j hj]
      rw [List.getElem?_map, List.getElem?_eq_getElem hj] at hu
      rw [List.getD_eq_getElem?_getD, List.getElem?_eq_getElem hj]
      simpa using hu) (fun u hu => by obtain ⟨x, _, rfl⟩ := List.mem_map.1 hu; rfl) (by unfold maxLen; simp; omega) (by simp; omega) (by simp)
  have ho2 : OwnI W' W.heap.size v' L := by
    unfold OwnI
    simpa using ho
  have hne : v' ≠ .slice none 0 0 := fun h => by cases (hn.1 h).1
  rcases ho2.2 with ⟨h, _⟩ | ⟨g, cap2, cur, h1, _⟩
  · exact absurd h hne
  · subst h1
    exact ⟨g, cap2, W', fun ty => hr, ho2, ((Below.refl W.heap.size W).alloc (Nat.le_refl _) _).trans ((Below.refl _ _).grown hg (by simp) (fun q hq => (World.ownsRow.lt he q hq).1))⟩

end Go.Proofs.YtallfmiikjmgaaaDoor
