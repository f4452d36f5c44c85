import Derived.Test.YtallfmiikjmgaaaZWrblk
set_option linter.unusedVariables false
set_option linter.unusedSimpArgs false
/- Walks: the reference of layer 6: a length in eight bytes. -/
namespace Obol
def lenS (n : Nat) : Nat → List Nat
  | 0 => [0, 0, 0, 0, 0, 0, 0, 0]
  | j + 1 => (lenS n j).set j (n / 256 ^ j % 256)
theorem lenS_len (n : Nat) : ∀ j, (lenS n j).length = 8
  | 0 => rfl
  | j + 1 => by rw [lenS, List.length_set, lenS_len n j]
end Obol
namespace Go.Proofs.Ytallfmiikjmgaaa
open Go.RowKit

set_option maxRecDepth 8000 in
set_option maxHeartbeats 4000000 in
theorem rLength (n : Int) (hn0 : 0 ≤ n) (hn1 : n ≤ 9223372036854775807) (w : World) :
    Calls Try.prog 43 #[.int .i64 n] w fun e w' => e = .returned (.slice (some ⟨w.heap.size, 0, none⟩) 8 8) ∧ Row w' w.heap.size (u8s (Obol.lenS n.toNat 8)) 5 ∧ Below w.heap.size w w' := by
  obtain ⟨ti, hti, htz, hts, htb⟩ := info_parts info8
  have hmk : ∀ W : World, (Instr.makeSlice 22 (.int .i64 8) (.int .i64 8)).run Try.prog W = .ok (.slice (some ⟨W.heap.size, 0, none⟩) 8 8) (W.alloc (.cells (u8s [0, 0, 0, 0, 0, 0, 0, 0]) 5)) := fun W => by
    have h := run_make (P := Try.prog) W 22 5 ti (.int .u8 0) Try.underlying22 hti htz .i64 .i64 8 8 (by omega) (by omega) (by rw [htb]; omega) (by omega)
    rw [hts] at h
    rw [h]
    have e : madeCells (Value.int .u8 0).cells 8 = u8s [0, 0, 0, 0, 0, 0, 0, 0] := Array.toList_inj.1 ((toList_madeCells_one (.int .u8 0) 8).trans rfl)
    rw [← e]
    rfl
  have hN := Lib.hid hn0
  go_enter Try.func43, Try.ntmps43
  go_wp2_with fail
  go_loopw [0, 4] (fun q1 q2 wr => ∃ (N : Int) (j : Nat), q1 = .int .i64 N ∧ q2 = .int .i64 (j : Int) ∧ j ≤ 8 ∧ Hid (N = ((n.toNat / 256 ^ j : Nat) : Int)) ∧ 0 ≤ N ∧ N ≤ 9223372036854775807 ∧ Row wr w.heap.size (u8s (Obol.lenS n.toNat j)) 5 ∧ Below w.heap.size w wr) (fun _ q2 _ => (8 - intOf q2).toNat)
  case atStart => exact ⟨n, 0, rfl, rfl, by omega, Lib.hid (by simp; omega), hn0, hn1, Row.new _ _ _, bAlloc (Below.refl _ _) _⟩
  case round =>
    obtain ⟨N, j, rfl, rfl, hj, hNj, N0, N1, R, B⟩ := hrel
    obtain ⟨i, hi⟩ : ∃ i : Int, (j : Int) = i := ⟨_, rfl⟩
    rw [hi]
    have i0 : 0 ≤ i := by omega
    by_cases hj8 : j < 8
    · have i1 : i < 8 := by omega
      have hij : Hid (i.toNat = j) := Lib.hid (by omega)
      have hc := R.cell i.toNat (u8s_get _ i.toNat (by rw [Obol.lenS_len]; omega))
      have hf := R.free i.toNat
      have RN := rowSet8 R i.toNat (n.toNat / 256 ^ j % 256) (z := N % 256) (by rw [hNj.out]; rfl)
      replace R := Lib.hid R
      replace B := Lib.hid (bSet (o := i.toNat) (u := .int .u8 (N % 256)) B (Nat.le_refl _))
      replace RN := Lib.hid RN
      have ht1 : N.tmod 256 = N % 256 := Int.tmod_eq_emod_of_nonneg N0
      have ht2 : N.tdiv 256 = N / 256 := Int.tdiv_eq_ediv_of_nonneg N0
      have hd : Hid (N / 256 = ((n.toNat / 256 ^ (j + 1) : Nat) : Int)) := Lib.hid (by rw [hNj.out, Nat.pow_succ, ← Nat.div_div_eq_div_mul]; rfl)
      go_wp2_with fail
      exact ⟨⟨_, j + 1, rfl, by simp; omega, by omega, hd, by omega, by omega, by show Row _ _ (u8s ((Obol.lenS n.toNat j).set j (n.toNat / 256 ^ j % 256))) _; have h := RN.out; rw [hij.out] at h ⊢; exact h, B.out⟩, by simp [intOf]; omega⟩
    · obtain rfl : j = 8 := by omega
      have i1 : ¬ i < 8 := by omega
      replace R := Lib.hid R
      replace B := Lib.hid B
      go_wp2_with fail
      go_ret
      exact ⟨rfl, R.out, B.out⟩

end Go.Proofs.Ytallfmiikjmgaaa
