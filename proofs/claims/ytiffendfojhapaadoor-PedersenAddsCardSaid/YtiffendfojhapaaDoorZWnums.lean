import Derived.Test.YtiffendfojhapaaDoorZWped
import Derived.Test.YtiffendfojhapaaDoorZWcopy
import Derived.Test.YtiffendfojhapaaDoorZWrsum
set_option linter.unusedVariables false
set_option linter.unusedSimpArgs false
/- Slices of numbers of the call's own: appended to, copied, changed. -/
namespace Go.Proofs.YtiffendfojhapaaDoor
open Go.RowKit

abbrev N64 (L : List Nat) : List Value := L.map fun (n : Nat) => Value.int .u64 (n : Int)
def OwnU (w : World) (base : Nat) (v : Value) (L : List Nat) : Prop := w.ownsRow base 31 1 v L.length (N64 L)
theorem OwnU.nil (w : World) (base : Nat) : OwnU w base (.slice none 0 0) [] := World.ownsRow_nil _ _ _ _
theorem OwnU.app {w : World} {base : Nat} {v : Value} {L M : List Nat} {news : List Value} (h : w.ownsRow base 31 1 v (L.length + M.length) (N64 L ++ news)) (e : news = N64 M) : OwnU w base v (L ++ M) := by
  subst e; unfold OwnU; rw [List.length_append, N64, List.map_append]; exact h
theorem OwnU.ul {w : World} {base : Nat} {L : List Nat} {g n cap : Nat} (h : OwnU w base (.slice (some ⟨g, 0, none⟩) n cap) L) : UL w g 0 L := fun i hi => by
  have h0 : n = L.length := by
    rcases h.2 with ⟨h1, _⟩ | ⟨g', cap', cur, h1, _⟩
    · cases h1
    · simp only [Value.slice.injEq] at h1
      exact h1.2.1
  subst h0
  rw [Nat.zero_add, World.ownsRow.cellAt h i (by omega)]
  simp only [List.getElem?_map, List.getElem?_eq_getElem hi, List.getD_eq_getElem?_getD]
  rfl
theorem OwnU.keep {w w' : World} {base B : Nat} {v : Value} {L : List Nat} (h : OwnU w base v L) (hb : Below B w w') (hB : w.heap.size ≤ B) : OwnU w' base v L := by
  refine ⟨h.1, ?_⟩
  rcases h.2 with h | ⟨g, cap, cur, h1, h2, h3, h4⟩
  · exact .inl h
  · exact .inr ⟨g, cap, cur, h1, h2, (hb.block g (Nat.lt_of_lt_of_le (Array.getElem?_eq_some_iff.1 h3).1 hB)).trans h3, h4⟩
theorem OwnU.row {w : World} {base : Nat} {v : Value} {L : List Nat} (h : OwnU w base v L) (hv : v ≠ .slice none 0 0) : ∃ g cap cur, v = .slice (some ⟨g, 0, none⟩) L.length cap ∧ base ≤ g ∧ Row w g cur 31 ∧ L.length ≤ cap ∧ cap ≤ maxLen ∧ cur.size = cap ∧ cur.toList.take L.length = N64 L := by
  rcases h.2 with ⟨rfl, _⟩ | ⟨g, cap, cur, h1, h2, h3, h4, h5, h6, h7⟩
  · exact absurd rfl hv
  · exact ⟨g, cap, cur, h1, h2, h3, h4, h5, by simpa using h6, by simpa using h7⟩
/-- As an argument. -/
theorem OwnU.sl {w : World} {base : Nat} {v : Value} {L : List Nat} (h : OwnU w base v L) : ∃ ao cap, v = .slice ao L.length cap ∧ SlU w.heap.size w ao cap L := by
  by_cases hv : v = .slice none 0 0
  · subst hv
    have h0 : L.length = 0 := by
      rcases h.2 with ⟨_, h0⟩ | ⟨g', cap', cur, h1, _⟩
      · omega
      · cases h1
    exact ⟨none, 0, by rw [h0], by omega, by omega, fun _ => ⟨h0, rfl⟩, fun h1 => by omega⟩
  · obtain ⟨g, cap, cur, rfl, h2, h3, h4, h5, h6, h7⟩ := h.row hv
    exact ⟨_, _, rfl, h4, (by unfold maxLen at h5; omega), (fun h => by cases h), fun _ => ⟨g, 0, rfl, h3.lt, h.ul⟩⟩
theorem info64n : (Tryd.prog.info? 31).map (fun i => (i.zero, i.size, i.bytes)) = some (some (.int .u64 0), 1, 8) := by kernel_rfl
theorem info_parts8 {i : Option TypeInfo} {z : Value} {s b : Nat} (h : i.map (fun i => (i.zero, i.size, i.bytes)) = some (some z, s, b)) : ∃ t, i = some t ∧ t.zero = some z ∧ t.size = s ∧ t.bytes = b := by
  cases i with
  | none => simp at h
  | some t => simp at h; exact ⟨t, rfl, h.1, h.2.1, h.2.2⟩
theorem append_ownU (W : World) (base : Nat) (v : Value) (L M : List Nat) (hown : OwnU W base v L) (ad : Addr) (m c : Nat) (hm : M.length = m) (hnews : ∀ j, j < M.length → W.cell? (ad.add j) = some (.int .u64 ((M.getD j 0 : Nat) : Int)))
    (hlen : L.length + M.length ≤ 100000000) (hbase : base ≤ W.heap.size) :
    ∃ v' W', (∀ ty, (Builtin.append_ #[58, 58] ty #[v, .slice (some ad) m c]).run Tryd.prog W = .ok v' W') ∧ OwnU W' base v' (L ++ M) ∧ Below base W W' ∧ (v' = .slice none 0 0 ↔ v = .slice none 0 0 ∧ m = 0) := by
  subst hm
  obtain ⟨ti, hti, htz, hts, htb⟩ := info_parts8 info64n
  obtain ⟨v', W', hr, ho, hg, hn⟩ := run_append_own W base 58 0 31 ti (.int .u64 0) 1 8 Tryd.underlying58 hti htz hts htb rfl (by decide) v L.length (N64 L) hown ad M.length c (N64 M) (by simp)
    (fun j u hu => by
      have hj : j < M.length := by have := (List.getElem?_eq_some_iff.1 hu).1; simpa using this
      rw [hnews j hj]
      rw [List.getElem?_map, List.getElem?_eq_getElem hj] at hu
      rw [List.getD_eq_getElem?_getD, List.getElem?_eq_getElem hj]
      simpa using hu) (fun u hu => by obtain ⟨x, _, rfl⟩ := List.mem_map.1 hu; rfl) (by unfold maxLen; omega) (by omega) hbase
  exact ⟨v', W', fun ty => hr, OwnU.app ho rfl, (Below.refl _ _).grown hg (by omega) (fun q hq => (World.ownsRow.lt hown q hq).1), hn⟩
theorem append_noneU (W : World) (base : Nat) (v : Value) (L : List Nat) (hown : OwnU W base v L) :
    ∀ ty, (Builtin.append_ #[58, 58] ty #[v, .slice none 0 0]).run Tryd.prog W = .ok v W := by
  obtain ⟨ti, hti, htz, hts, htb⟩ := info_parts8 info64n
  intro ty
  exact run_append_owned_none (P := Tryd.prog) W base 58 ty 31 ti 1 Tryd.underlying58 hti v L.length (N64 L) hown
theorem newsU (w : World) (x : Int) (x0 : 0 ≤ x) : ∀ j, j < [x.toNat].length → (w.alloc (.cells #[.int .u64 x] 31)).cell? ((⟨w.heap.size, 0, none⟩ : Addr).add j) = some (.int .u64 (([x.toNat].getD j 0 : Nat) : Int)) := fun j hj => by
  obtain rfl : j = 0 := by simp at hj; omega
  rw [addP]
  have := (show Row (w.alloc (.cells #[.int .u64 x] 31)) w.heap.size #[.int .u64 x] 31 from Row.new _ _ _).cell 0 rfl
  rw [this]
  simp
  omega
/-- 'append([]uint64{}, b...)' -/
theorem append_copyU (W : World) (ao : Option Addr) (len cap : Nat) (L : List Nat) (H : L.length = len) (hl : len ≤ 10000000) (hn : ao = none → len = 0 ∧ cap = 0) (hc : 0 < len → ∃ b o, ao = some ⟨b, o, none⟩ ∧ UL W b o L) :
    ∃ v' W', (∀ ty, (Builtin.append_ #[58, 58] ty #[.slice (some ⟨W.heap.size, 0, none⟩) 0 0, .slice ao len cap]).run Tryd.prog (W.alloc (.cells #[] 31)) = .ok v' W') ∧ v' ≠ .slice none 0 0 ∧
      OwnU W' W.heap.size v' L ∧ Below W.heap.size W W' := by
  have he : OwnU (W.alloc (.cells #[] 31)) W.heap.size (.slice (some ⟨W.heap.size, 0, none⟩) 0 0) [] := World.ownsRow_made W #[] 0 (Nat.le_refl _) (by decide) rfl
  cases ao with
  | none =>
    obtain ⟨rfl, rfl⟩ := hn rfl
    obtain rfl : L = [] := List.length_eq_zero_iff.1 H
    exact ⟨_, _, append_noneU _ _ _ _ he, (fun h => by cases h), he, bAlloc (Below.refl _ _) _⟩
  | some ad =>
    obtain ⟨v', W', h1, h2, h3, h4⟩ := append_ownU _ _ _ _ L he ad len cap H (fun j hj => by
      obtain ⟨b, o, h1, h2⟩ := hc (by omega)
      obtain rfl := Option.some.inj h1
      rw [addB]
      exact (h2.below (B := W.heap.size) (bAlloc (Below.refl _ _) _) (h2.lt (by omega))) j hj) (by simp; omega) (by simp)
    exact ⟨v', W', h1, (fun h => by cases (h4.1 h).1), h2, ((Below.refl W.heap.size W).alloc (Nat.le_refl _) _).trans h3⟩

end Go.Proofs.YtiffendfojhapaaDoor
