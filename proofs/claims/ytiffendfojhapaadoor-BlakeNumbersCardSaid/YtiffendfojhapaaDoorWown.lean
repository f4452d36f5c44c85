import Derived.Test.YtiffendfojhapaaDoorWbyte
/- Bytes as cells; slices of the call's own that hold bytes. -/
namespace Go.Proofs.YtiffendfojhapaaDoor
open Go.RowKit

theorem info8 : (Tryd.prog.info? 5).map (fun i => (i.zero, i.size, i.bytes)) = some (some (.int .u8 0), 1, 1) := by kernel_rfl
/-- Bytes as cells. -/
def u8s (L : List Nat) : Array Value := (L.map fun (n : Nat) => Value.int .u8 (n : Int)).toArray
theorem u8s_size (L : List Nat) : (u8s L).size = L.length := by unfold u8s; simp
theorem u8s_get (L : List Nat) (i : Nat) (hi : i < L.length) : (u8s L)[i]? = some (.int .u8 ((L.getD i 0 : Nat) : Int)) := by
  unfold u8s
  rw [List.getElem?_toArray, List.getElem?_map, List.getElem?_eq_getElem hi, List.getD_eq_getElem?_getD, List.getElem?_eq_getElem hi]
  rfl
theorem Row.bl {w : World} {b : Nat} {L : List Nat} {t : TypeId} (h : Row w b (u8s L) t) : BL w b 0 L := fun i hi => by rw [Nat.zero_add]; exact h.cell i (u8s_get L i hi)
theorem rowSet8 {w : World} {k : Nat} {L : List Nat} {t : TypeId} (h : Row w k (u8s L) t) (i Z : Nat) {z : Int} (hz : z = (Z : Int)) : Row (w.setCell ⟨k, i, none⟩ (.int .u8 z)) k (u8s (L.set i Z)) t := by
  have e : (u8s L).setIfInBounds i (.int .u8 z) = u8s (L.set i Z) := by
    unfold u8s
    rw [List.setIfInBounds_toArray, List.map_set, hz]
  rw [← e]
  exact h.set i _

abbrev U8 (L : List Nat) : List Value := L.map fun (n : Nat) => Value.int .u8 (n : Int)
/-- A slice of the call's own: these bytes. -/
def OwnB (w : World) (base : Nat) (v : Value) (L : List Nat) : Prop := w.ownsRow base 5 1 v L.length (U8 L)
theorem OwnB.nil (w : World) (base : Nat) : OwnB w base (.slice none 0 0) [] := World.ownsRow_nil _ _ _ _
theorem OwnB.size {w : World} {base : Nat} {v : Value} {L : List Nat} (h : OwnB w base v L) (h0 : 0 < L.length) : ∃ g cap cur, v = .slice (some ⟨g, 0, none⟩) L.length cap ∧ base ≤ g ∧ Row w g cur 5 ∧ L.length ≤ cap ∧ cap ≤ maxLen ∧ cur.size = cap ∧ cur.toList.take L.length = U8 L := by
  rcases h.2 with ⟨rfl, h⟩ | ⟨g, cap, cur, h1, h2, h3, h4, h5, h6, h7⟩
  · omega
  · exact ⟨g, cap, cur, h1, h2, h3, h4, h5, by simpa using h6, by simpa using h7⟩
theorem OwnB.bl {w : World} {base : Nat} {L : List Nat} {g cap : Nat} (h : OwnB w base (.slice (some ⟨g, 0, none⟩) L.length cap) L) : BL w g 0 L := fun i hi => by
  rw [Nat.zero_add, World.ownsRow.cellAt h i (by omega)]
  simp only [List.getElem?_map, List.getElem?_eq_getElem hi, List.getD_eq_getElem?_getD]
  rfl
theorem OwnB.below {w w' : World} {base : Nat} {v : Value} {L : List Nat} (h : OwnB w base v L) (hb : Below w.heap.size w w') : OwnB w' base v L := by
  refine ⟨h.1, ?_⟩
  rcases h.2 with h | ⟨g, cap, cur, h1, h2, h3, h4⟩
  · exact .inl h
  · exact .inr ⟨g, cap, cur, h1, h2, (hb.block g (Array.getElem?_eq_some_iff.1 h3).1).trans h3, h4⟩

end Go.Proofs.YtiffendfojhapaaDoor
