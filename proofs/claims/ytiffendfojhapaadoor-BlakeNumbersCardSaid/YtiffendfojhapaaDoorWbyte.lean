import Derived.Test.YtiffendfojhapaaDoorWrow
import Derived.Test.YtiffendfojhapaaDoorWbits
/- Bytes in memory. -/
namespace Obol
theorem or_low (a c : Nat) (h : c < 256) : a * 256 ||| c = a * 256 + c := by
  have := Nat.two_pow_add_eq_or_of_lt (i := 8) (b := c) (by omega) a
  rw [show (2 : Nat) ^ 8 = 256 from rfl] at this
  rw [Nat.mul_comm a 256, ← this]
end Obol
namespace Go.Proofs.YtiffendfojhapaaDoor
open Go.RowKit

/-- So many bytes. -/
structure B8 (n : Nat) (L : List Nat) : Prop where
  len : L.length = n
  lt : ∀ i, L.getD i 0 < 256
theorem B8.of {L : List Nat} (h : ∀ x ∈ L, x < 256) : B8 L.length L := ⟨rfl, fun i => by
  rw [List.getD_eq_getElem?_getD]
  cases h' : L[i]? with
  | none => exact Nat.zero_lt_of_lt (show 0 < 256 by decide)
  | some x => exact h x (List.mem_of_getElem? h')⟩
theorem B8.all {n : Nat} {L : List Nat} (h : B8 n L) : ∀ x ∈ L, x < 256 := fun x hx => by
  obtain ⟨i, hi, rfl⟩ := List.getElem_of_mem hx
  have := h.lt i
  rwa [List.getD_eq_getElem?_getD, List.getElem?_eq_getElem hi] at this

/-- The cells from o on are these bytes. -/
def BL (w : World) (b o : Nat) (L : List Nat) : Prop := ∀ i, i < L.length → w.cell? ⟨b, o + i, none⟩ = some (.int .u8 ((L.getD i 0 : Nat) : Int))
theorem BL.lt {w : World} {b o : Nat} {L : List Nat} (h : BL w b o L) (h0 : 0 < L.length) : b < w.heap.size := World.block_lt_of_cell? w ⟨b, o + 0, none⟩ (h 0 h0)
theorem BL.below {B : Nat} {w w' : World} {b o : Nat} {L : List Nat} (h : BL w b o L) (hb : Below B w w') (hB : b < B) : BL w' b o L := fun i hi => (hb.cell (p := ⟨b, o + i, none⟩) hB).trans (h i hi)
theorem BL.at {w : World} {b o : Nat} {L : List Nat} {n : Nat} (h : BL w b o L) (H : B8 n L) {i : Int} (h0 : 0 ≤ i) (h1 : i < n) :
    ∃ v : Int, w.cell? ⟨b, o + i.toNat, none⟩ = some (.int .u8 v) ∧ v = ((L.getD i.toNat 0 : Nat) : Int) ∧ 0 ≤ v ∧ v ≤ 255 :=
  ⟨_, h i.toNat (by rw [H.len]; omega), rfl, by omega, by have := H.lt i.toNat; omega⟩

theorem or_byte {n c : Int} (h0 : 0 ≤ n) (h1 : n < 72057594037927936) (c0 : 0 ≤ c) (c1 : c ≤ 255) : bits .or .u64 (n * 256) c = 256 * n + c := by
  obtain ⟨N, rfl⟩ := Int.eq_ofNat_of_zero_le h0
  obtain ⟨C, rfl⟩ := Int.eq_ofNat_of_zero_le c0
  have e : ((N : Int) * 256) = ((N * 256 : Nat) : Int) := by omega
  rw [e, u64_or_nat _ _ (by omega) (by omega), Obol.or_low _ _ (by omega)]
  omega
theorem and_63 {n : Int} (h0 : 0 ≤ n) (h1 : n ≤ 18446744073709551615) : bits .and .u64 n 9223372036854775807 = n % 9223372036854775808 := by
  obtain ⟨N, rfl⟩ := Int.eq_ofNat_of_zero_le h0
  have e : (9223372036854775807 : Int) = ((2 ^ 63 - 1 : Nat) : Int) := by decide
  rw [e, u64_and_nat _ _ (by omega) (by decide), Nat.and_two_pow_sub_one_eq_mod]
  omega
theorem and_1 {n : Int} (h0 : 0 ≤ n) (h1 : n ≤ 18446744073709551615) : bits .and .u64 n 1 = n % 2 := by
  obtain ⟨N, rfl⟩ := Int.eq_ofNat_of_zero_le h0
  have e : (1 : Int) = ((2 ^ 1 - 1 : Nat) : Int) := by decide
  rw [e, u64_and_nat _ _ (by omega) (by decide), Nat.and_two_pow_sub_one_eq_mod]
  omega

end Go.Proofs.YtiffendfojhapaaDoor
