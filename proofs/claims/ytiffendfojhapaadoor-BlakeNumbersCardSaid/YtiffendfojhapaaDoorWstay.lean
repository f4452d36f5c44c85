import Derived.Test.YtiffendfojhapaaDoorWconv
import Derived.Laws.AppendOwnNone
/- Bytes copied into a slice of the call's own, and written there. -/
namespace Go.Proofs.YtiffendfojhapaaDoor
open Go.RowKit

theorem addB (b o j : Nat) : (⟨b, o, none⟩ : Addr).add j = ⟨b, o + j, none⟩ := by unfold Addr.add; split <;> simp_all
theorem own_set {w : World} {base g n cap : Nat} {L : List Nat} (h : OwnB w base (.slice (some ⟨g, 0, none⟩) n cap) L) (hn : L.length = n) (j Z : Nat) {z : Int} (hz : z = (Z : Int)) :
    OwnB (w.setCell ⟨g, j, none⟩ (.int .u8 z)) base (.slice (some ⟨g, 0, none⟩) n cap) (L.set j Z) := by
  subst hn hz
  have h2 := (World.ownsRow.stored h j (.int .u8 ((Z : Nat) : Int))).1
  unfold OwnB
  rw [List.length_set, U8, List.map_set]
  exact h2
theorem own_cell {w : World} {base g n cap : Nat} {L : List Nat} (h : OwnB w base (.slice (some ⟨g, 0, none⟩) n cap) L) (hn : L.length = n) {i : Int} (h0 : 0 ≤ i) (h1 : i < n) :
    w.cell? ⟨g, i.toNat, none⟩ = some (.int .u8 ((L.getD i.toNat 0 : Nat) : Int)) := by
  subst hn
  have := h.bl i.toNat (by omega)
  rwa [Nat.zero_add] at this
theorem own_blz {w : World} {base g n cap : Nat} {L : List Nat} (h : OwnB w base (.slice (some ⟨g, 0, none⟩) n cap) L) (hn : L.length = n) : BL w g 0 L := by
  subst hn
  exact h.bl
theorem own_free {w : World} {base g n cap : Nat} {L : List Nat} (h : OwnB w base (.slice (some ⟨g, 0, none⟩) n cap) L) (hn : L.length = n) (j : Nat) : w.frozen? ⟨g, j, none⟩ = false := by
  subst hn
  exact World.ownsRow.frozenAt h j
theorem own_ge {w : World} {base g n cap : Nat} {L : List Nat} (h : OwnB w base (.slice (some ⟨g, 0, none⟩) n cap) L) : base ≤ g := (World.ownsRow.lt h g rfl).1
/-- An empty slice of the call's own, just made. -/
theorem own_empty (w : World) (base : Nat) (hb : base ≤ w.heap.size) : OwnB (w.alloc (.cells #[] 5)) base (.slice (some ⟨w.heap.size, 0, none⟩) 0 0) [] :=
  World.ownsRow_made w #[] 0 hb (by decide) rfl
/-- What is owned again, as a slice whose shape is known. -/
theorem own_shape {w : World} {base : Nat} {v : Value} {L : List Nat} (h : OwnB w base v L) (hv : v ≠ .slice none 0 0) : ∃ g cap, v = .slice (some ⟨g, 0, none⟩) L.length cap := by
  rcases h.2 with ⟨rfl, _⟩ | ⟨g, cap, cur, rfl, _⟩
  · exact absurd rfl hv
  · exact ⟨g, cap, rfl⟩

theorem getD_put (L : List Nat) (i j z : Nat) (hi : i < L.length) : (L.set i z).getD j 0 = if i = j then z else L.getD j 0 := by
  rw [List.getD_eq_getElem?_getD, List.getElem?_set, List.getD_eq_getElem?_getD]
  split
  · rename_i h
    first | rfl | (rw [if_pos (by omega)]; rfl)
  · rfl
theorem own_cap {w : World} {base g n cap : Nat} {L : List Nat} (h : OwnB w base (.slice (some ⟨g, 0, none⟩) n cap) L) : L.length ≤ cap ∧ cap ≤ 9223372036854775807 := by
  rcases h.2 with ⟨h, _⟩ | ⟨g', cap', cur, h1, _, _, h4, h5, _⟩
  · cases h
  · simp only [Value.slice.injEq] at h1
    obtain ⟨_, _, rfl⟩ := h1
    exact ⟨h4, by unfold maxLen at h5; omega⟩
theorem own_other {w : World} {base g n cap b o : Nat} {u : Value} {L : List Nat} (h : OwnB w base (.slice (some ⟨g, 0, none⟩) n cap) L) (hne : g ≠ b) : OwnB (w.setCell ⟨b, o, none⟩ u) base (.slice (some ⟨g, 0, none⟩) n cap) L := by
  refine ⟨h.1, ?_⟩
  rcases h.2 with h | ⟨g', cap', cur, h1, h2, h3, h4⟩
  · exact .inl h
  · refine .inr ⟨g', cap', cur, h1, h2, ?_, h4⟩
    simp only [Value.slice.injEq, Option.some.injEq, Addr.mk.injEq, and_true] at h1
    rw [← h1.1]
    rw [← h1.1] at h3
    exact (heap_setCell_other w ⟨b, o, none⟩ g u hne).trans h3
theorem own_lt {w : World} {base g n cap : Nat} {L : List Nat} (h : OwnB w base (.slice (some ⟨g, 0, none⟩) n cap) L) : g < w.heap.size := (World.ownsRow.lt h g rfl).2
/-- What is known behind the copy. -/
structure Cp (w w1 w2 : World) (g cap2 len : Nat) (L : List Nat) : Prop where
  own : OwnB w2 w1.heap.size (.slice (some ⟨g, 0, none⟩) len cap2) L
  bel : Below w1.heap.size w1 w2

/-- A loop that adds one to each byte: what its rounds hold on to. -/
def LoI (base : Nat) (wr : World) (g cap2 len : Nat) (i : Int) : Prop := 0 ≤ i ∧ i ≤ len ∧ ∃ L', L'.length = len ∧ (∀ j, L'.getD j 0 < 256) ∧ OwnB wr base (.slice (some ⟨g, 0, none⟩) len cap2) L'
theorem LoI.step {base : Nat} {wr : World} {g cap2 len : Nat} {i : Int} (h : LoI base wr g cap2 len i) (hi : i < len) :
    ∃ v : Int, wr.cell? ⟨g, i.toNat, none⟩ = some (.int .u8 v) ∧ wr.frozen? ⟨g, i.toNat, none⟩ = false ∧ 0 ≤ v ∧ v ≤ 255 ∧ LoI base (wr.setCell ⟨g, i.toNat, none⟩ (.int .u8 ((v + 1) % 256))) g cap2 len (i + 1) := by
  obtain ⟨h0, h1, L', hl, hb, hO⟩ := h
  have hq := hb i.toNat
  refine ⟨_, own_cell hO hl h0 hi, own_free hO hl _, by omega, by omega, by omega, by omega, L'.set i.toNat ((L'.getD i.toNat 0 + 1) % 256), by rw [List.length_set]; exact hl, fun j => ?_, own_set hO hl _ _ (by omega)⟩
  rw [getD_put _ _ _ _ (by omega)]
  split
  · omega
  · exact hb j


end Go.Proofs.YtiffendfojhapaaDoor
