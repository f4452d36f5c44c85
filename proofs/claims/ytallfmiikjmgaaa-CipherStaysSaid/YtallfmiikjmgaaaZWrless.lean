import Derived.Test.YtallfmiikjmgaaaZWrcar
set_option linter.unusedVariables false
set_option linter.unusedSimpArgs false
/- Walks: the reference of layer 6: is a number of 17 digits below 2^130 - 5? -/
namespace Obol
def lessF (L : List Nat) : Nat → Bool
  | 0 => decide (L.getD 0 0 < 251)
  | i + 1 => if L.getD (i + 1) 0 = 255 then lessF L i else true
def lessL (L : List Nat) : Bool := if L.getD 16 0 = 3 then lessF L 15 else decide (L.getD 16 0 < 3)
end Obol
namespace Go.Proofs.Ytallfmiikjmgaaa
open Go.RowKit

theorem DL.at {w : World} {b o : Nat} {L : List Nat} (h : DL w b o L) {i : Nat} (hi : i < L.length) : ∃ v : Int, w.cell? ⟨b, o + i, none⟩ = some (.int .i64 v) ∧ ((L.getD i 0 : Nat) : Int) = v ∧ 0 ≤ v := ⟨_, h i hi, rfl, by omega⟩
set_option maxRecDepth 8000 in
set_option maxHeartbeats 4000000 in
theorem rLess (b o cap : Nat) (L : List Nat) (hL0 : L.length = 17) (w : World) (hD0 : DL w b o L) :
    Calls Try.prog 76 #[.slice (some ⟨b, o, none⟩) 17 cap] w fun e w' => e = .returned (.bool (Obol.lessL L)) ∧ w' = w := by
  have HD := Lib.hid hD0
  have HL := Lib.hid hL0
  obtain ⟨v, cv, ev, v0⟩ := hD0.at (i := 16) (by omega)
  clear hD0 hL0
  by_cases h3 : v = 3
  · subst h3
    have hE : Hid (Obol.lessL L = Obol.lessF L 15) := Lib.hid (if_pos (by omega))
    replace ev := Lib.hid ev
    go_enter Try.func76, Try.ntmps76
    go_wp2_with fail
    go_loopw [3] (fun q1 wr => ∃ j : Nat, q1 = .int .i64 (j : Int) ∧ j ≤ 15 ∧ Hid (Obol.lessL L = Obol.lessF L j) ∧ wr = w) (fun q1 _ => (intOf q1).toNat)
    case atStart => exact ⟨15, rfl, by omega, hE, rfl⟩
    case round =>
      clear hE
      obtain ⟨j, rfl, hj, hE, rfl⟩ := hrel
      obtain ⟨i, hi⟩ : ∃ i : Int, (j : Int) = i := ⟨_, rfl⟩
      rw [hi]
      obtain ⟨u, cu, eu, u0⟩ := HD.out.at (i := j) (by rw [HL.out]; omega)
      by_cases hj0 : 0 < j
      · have i0 : 0 < i := by omega
        have i1 : i < 17 := by omega
        have hij : i.toNat = j := by omega
        rw [← hij] at cu
        replace hij := Lib.hid hij
        have wi := wrap_small (x := i - 1) (by omega) (by omega)
        obtain ⟨q, rfl⟩ : ∃ q, j = q + 1 := ⟨j - 1, by omega⟩
        by_cases h255 : u = 255
        · subst h255
          have hE2 : Hid (Obol.lessL L = Obol.lessF L q) := Lib.hid (hE.out.trans (if_pos (by omega)))
          replace eu := Lib.hid eu
          go_wp2_with fail
          go_roundw
          case rel => exact ⟨q, by simp; omega, by omega, hE2, by trivial⟩
          case measure => simp [intOf]; omega
        · have hT : Hid (Obol.lessL L = true) := Lib.hid (hE.out.trans (if_neg (by omega)))
          replace eu := Lib.hid eu
          go_wp2_with fail
          go_ret
          exact ⟨by rw [hT.out]; rfl, rfl⟩
      · obtain rfl : j = 0 := by omega
        obtain rfl : i = 0 := by omega
        have hT : Hid (Obol.lessL L = decide (u < 251)) := Lib.hid (hE.out.trans (by show decide (L.getD 0 0 < 251) = _; congr 1; exact propext ⟨fun h => by omega, fun h => by omega⟩))
        rw [Nat.add_zero] at cu
        replace eu := Lib.hid eu
        go_wp2_with fail
        go_ret
        exact ⟨by rw [hT.out]; rfl, rfl⟩
  · have hT : Hid (Obol.lessL L = decide (v < 3)) := Lib.hid ((if_neg (by omega)).trans (by congr 1; exact propext ⟨fun h => by omega, fun h => by omega⟩))
    replace ev := Lib.hid ev
    go_enter Try.func76, Try.ntmps76
    go_wp2_with fail
    go_ret
    exact ⟨by rw [hT.out]; rfl, rfl⟩

end Go.Proofs.Ytallfmiikjmgaaa
