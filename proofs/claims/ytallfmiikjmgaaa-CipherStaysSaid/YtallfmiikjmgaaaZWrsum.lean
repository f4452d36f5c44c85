import Derived.Test.YtallfmiikjmgaaaZWrpress
import Derived.Test.YtallfmiikjmgaaaZWmark
import Derived.Test.YtallfmiikjmgaaaZWcopy
set_option linter.unusedVariables false
set_option linter.unusedSimpArgs false
/- Walks: the reference of layer 5: the digest. -/
namespace Obol
theorem take_pad {P : List Nat} {m : Nat} (h1 : P.length ≤ m) (h2 : m < 8) : (pad8 P).take (m + 1) = (pad8 P).take m ++ [0] := by
  rw [List.take_add_one, List.getElem?_eq_getElem (by rw [pad8_len]; exact h2)]
  have h := pad8_get P m h2
  rw [List.getD_eq_getElem?_getD, List.getElem?_eq_getElem (by rw [pad8_len]; exact h2), List.getD_eq_getElem?_getD, List.getElem?_eq_none h1] at h
  simp only [Option.getD_some, Option.getD_none] at h
  rw [h]
  rfl
theorem take_pad0 {P : List Nat} (h : P.length ≤ 8) : (pad8 P).take P.length = P := by
  refine List.ext_getElem (by rw [List.length_take, pad8_len]; omega) fun i h1 h2 => ?_
  rw [List.getElem_take]
  have h3 := pad8_get P i (by omega)
  rw [List.getD_eq_getElem?_getD, List.getElem?_eq_getElem (by rw [pad8_len]; omega), List.getD_eq_getElem?_getD, List.getElem?_eq_getElem h2] at h3
  exact h3
/-- Bytes, and bytes 0 up to whole blocks. -/
def allL (L : List Nat) : List Nat := L ++ List.replicate (64 * nBlocks L.length - L.length) 0
theorem nBlocks_ge (n : Nat) : n ≤ 64 * nBlocks n ∧ 64 * nBlocks n < n + 64 + (if n = 0 then 1 else 0) ∧ 0 < nBlocks n := by
  unfold nBlocks
  split <;> omega
theorem allL_len (L : List Nat) : (allL L).length = 64 * nBlocks L.length := by
  have := (nBlocks_ge L.length).1
  unfold allL
  rw [List.length_append, List.length_replicate]
  omega
theorem allL_get (L : List Nat) (i : Nat) : (allL L).getD i 0 = L.getD i 0 := by
  unfold allL
  rw [List.getD_eq_getElem?_getD, List.getD_eq_getElem?_getD, List.getElem?_append]
  split
  · rfl
  · rename_i h
    rw [List.getElem?_eq_none (show L.length ≤ i by omega), List.getElem?_replicate]
    split <;> rfl
theorem allL_take {L : List Nat} {m : Nat} (h1 : L.length ≤ m) (h2 : m < 64 * nBlocks L.length) : (allL L).take (m + 1) = (allL L).take m ++ [0] := by
  rw [List.take_add_one, List.getElem?_eq_getElem (by rw [allL_len]; exact h2)]
  have h := allL_get L m
  rw [List.getD_eq_getElem?_getD, List.getElem?_eq_getElem (by rw [allL_len]; exact h2), List.getD_eq_getElem?_getD, List.getElem?_eq_none h1] at h
  simp only [Option.getD_some, Option.getD_none] at h
  rw [h]
  rfl
theorem allL_take0 (L : List Nat) : (allL L).take L.length = L := by
  unfold allL
  rw [List.take_left]
theorem nBlocks_eq {n m : Nat} (_ : n ≤ m) (h2 : m ≤ 64 * nBlocks n) (h3 : m % 64 = 0) (h4 : m ≠ 0) : m = 64 * nBlocks n := by
  by_cases h : n = 0
  · subst h
    have e : nBlocks 0 = 1 := rfl
    omega
  · have e : nBlocks n = (n + 63) / 64 := by unfold nBlocks; rw [if_neg h]
    omega
theorem nBlocks_lt {n m : Nat} (h1 : n ≤ m) (h2 : m ≤ 64 * nBlocks n) (h : m % 64 ≠ 0 ∨ m = 0) : m < 64 * nBlocks n := by
  rcases Nat.lt_or_ge m (64 * nBlocks n) with h3 | h3
  · exact h3
  · have := (nBlocks_ge n).2.2
    omega
theorem nBlocks_last {n j : Nat} (h : j < nBlocks n) : (64 * j + 64 = 64 * nBlocks n) = (n ≤ 64 * (j + 1)) := by
  unfold nBlocks at *
  apply propext
  split at h <;> split <;> omega
end Obol
namespace Go.Proofs.Ytallfmiikjmgaaa
open Go.RowKit

theorem bl_block {w : World} {g : Nat} {L : List Nat} (h : BL w g 0 (Obol.allL L)) {j : Nat} (hj : j < Obol.nBlocks L.length) : BL w g (64 * j) (Obol.blockL L j) := fun i hi => by
  rw [Obol.blockL_len] at hi
  have := h (64 * j + i) (by rw [Obol.allL_len]; omega)
  rw [Nat.zero_add, Obol.allL_get] at this
  rw [this, Obol.blockL_get _ _ _ hi]
theorem slice_mid {P : Program} (t e : TypeId) (ht : P.underlying t = some (.slice e)) (he : (P.info? e).map (fun i => (i.zero, i.size, i.bytes)) = some (some (.int .u8 0), 1, 1)) (b o len c l h : Nat) (h1 : l < h) (h2 : h ≤ c) (W : World) :
    (Instr.slice t (.slice (some ⟨b, o, none⟩) len c) (some (.int .i64 (l : Int))) (some (.int .i64 (h : Int))) none).run P W = .ok (.slice (some ⟨b, o + l, none⟩) (h - l) (c - l)) W := by
  have e2 : P.elem t = e := by simp [Program.elem, ht]
  obtain ⟨i, hi, _, hs, _⟩ := info_parts he
  rw [run_slice_lh W t _ _ _ (by rw [e2]; exact ht) .i64 .i64 l h (by omega) (by omega) (by omega), e2]
  simp [Go.sizeOf, typeInfo, hi, hs, Result.andThen, sliced]
  have : c ≠ l := by omega
  simp [this, addP]

theorem WL.other {w : World} {b o c i : Nat} {L : List Nat} {u : Value} (h : WL w b o L) (hne : b ≠ c) : WL (w.setCell ⟨c, i, none⟩ u) b o L := fun j hj => (World.cell?_setCell_other w ⟨c, i, none⟩ ⟨b, o + j, none⟩ u (fun e => hne (by cases e; rfl))).trans (h j hj)
theorem news0 (w : World) : ∀ j u, (U8 [0])[j]? = some u → (w.alloc (.cells #[.int .u8 0] 5)).cell? ((⟨w.heap.size, 0, none⟩ : Addr).add j) = some u := fun j u hu => by
  have hj : j < 1 := by have := (List.getElem?_eq_some_iff.1 hu).1; simpa using this
  obtain rfl : j = 0 := by omega
  rw [addP]
  have := (show Row (w.alloc (.cells #[.int .u8 0] 5)) w.heap.size #[.int .u8 0] 5 from Row.new _ _ _).cell 0 rfl
  rw [this]
  simpa using hu
theorem bl0 (w : World) : BL (w.alloc (.cells #[.int .u8 0] 5)) w.heap.size 0 [0] := (show Row _ _ (u8s [0]) _ from Row.new w _ 5).bl

theorem BL.store {w : World} {b o' c o : Nat} {L : List Nat} {vs : List Value} (h : BL w b o' L) (hne : b ≠ c) : BL (w.setCells c o vs) b o' L := fun k hk => (cell_setCells hne _ _ _).trans (h k hk)
theorem newsW (w : World) (x : Int) (x0 : 0 ≤ x) : ∀ j, j < [x.toNat].length → (w.alloc (.cells #[.int .u32 x] 65)).cell? ((⟨w.heap.size, 0, none⟩ : Addr).add j) = some (.int .u32 (([x.toNat].getD j 0 : Nat) : Int)) := fun j hj => by
  obtain rfl : j = 0 := by simp at hj; omega
  rw [addP]
  have := (show Row (w.alloc (.cells #[.int .u32 x] 65)) w.heap.size #[.int .u32 x] 65 from Row.new _ _ _).cell 0 rfl
  rw [this]
  simp
  omega
/-- Words appended to a slice of the call's own. -/
theorem append_ownW (W : World) (base : Nat) (v : Value) (L M : List Nat) (hown : OwnW W base v L) (ad : Addr) (m c : Nat) (hm : M.length = m) (hnews : ∀ j, j < M.length → W.cell? (ad.add j) = some (.int .u32 ((M.getD j 0 : Nat) : Int)))
    (hlen : L.length + M.length ≤ 100000000) (hbase : base ≤ W.heap.size) :
    ∃ v' W', (∀ ty, (Builtin.append_ #[118, 118] ty #[v, .slice (some ad) m c]).run Try.prog W = .ok v' W') ∧ OwnW W' base v' (L ++ M) ∧ Below base W W' := by
  subst hm
  obtain ⟨ti, hti, htz, hts, htb⟩ := info_parts4 info32w
  obtain ⟨v', W', hr, ho, hg, hn⟩ := run_append_own W base 118 0 65 ti (.int .u32 0) 1 4 Try.underlying118 hti htz hts htb rfl (by decide) v L.length (U32 L) hown ad M.length c (U32 M) (by simp)
    (fun j u hu => by
      have hj : j < M.length := by have := (List.getElem?_eq_some_iff.1 hu).1; simpa using this
      rw [hnews j hj]
      rw [List.getElem?_map, List.getElem?_eq_getElem hj] at hu
      rw [List.getD_eq_getElem?_getD, List.getElem?_eq_getElem hj]
      simpa using hu) (fun u hu => by obtain ⟨x, _, rfl⟩ := List.mem_map.1 hu; rfl) (by unfold maxLen; omega) (by omega) hbase
  exact ⟨v', W', fun ty => hr, OwnW.app ho rfl, (Below.refl _ _).grown hg (by omega) (fun q hq => (World.ownsRow.lt hown q hq).1)⟩

end Go.Proofs.Ytallfmiikjmgaaa
