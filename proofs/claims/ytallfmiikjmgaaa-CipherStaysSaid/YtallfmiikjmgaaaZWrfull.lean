import Derived.Test.YtallfmiikjmgaaaZWrlen
set_option linter.unusedVariables false
set_option linter.unusedSimpArgs false
/- Walks: the reference of layer 6: bytes up to a multiple of 16. -/
namespace Obol
def padN (n : Nat) : Nat := (16 - n % 16) % 16
def fullL (B : List Nat) : List Nat := B ++ List.replicate (padN B.length) 0
end Obol
namespace Go.Proofs.Ytallfmiikjmgaaa
open Go.RowKit

def sliceLen : Value → Nat
  | .slice _ n _ => n
  | _ => 0
theorem newsB0 (w : World) : ∀ j, j < [0].length → (w.alloc (.cells #[.int .u8 0] 5)).cell? ((⟨w.heap.size, 0, none⟩ : Addr).add j) = some (.int .u8 ((([0] : List Nat).getD j 0 : Nat) : Int)) := fun j hj => by
  obtain rfl : j = 0 := by simp at hj; omega
  rw [addP]
  have := (show Row (w.alloc (.cells #[.int .u8 0] 5)) w.heap.size #[.int .u8 0] 5 from Row.new _ _ _).cell 0 rfl
  rw [this]
  rfl

set_option maxRecDepth 8000 in
set_option maxHeartbeats 4000000 in
theorem rFull (ao : Option Addr) (len cap : Nat) (B : List Nat) (HB0 : B8 len B) (hl : len ≤ 1000000) (hn0 : ao = none → len = 0 ∧ cap = 0) (w : World) (hb0 : 0 < len → ∃ b o, ao = some ⟨b, o, none⟩ ∧ BL w b o B) :
    Calls Try.prog 42 #[.slice ao len cap] w fun e w' => ∃ g cap2 n, e = .returned (.slice (some ⟨g, 0, none⟩) n cap2) ∧ OwnB w' w.heap.size (.slice (some ⟨g, 0, none⟩) n cap2) (Obol.fullL B) ∧ n = len + Obol.padN len ∧ Below w.heap.size w w' := by
  obtain ⟨g, cap2, w1, hap, hO, hb1⟩ := append_copy w ao len cap B HB0.len (by omega) hn0 hb0
  have HB := Lib.hid HB0
  have O := Lib.hid hO
  have B1 := Lib.hid hb1
  clear hO hb1 hn0 hb0 HB0
  go_enter Try.func42, Try.ntmps42
  go_wp2_with (at_builtin; refine wpList_appended rfl _ _ _ _ rfl _ _ _ rfl rfl hap ?_)
  clear hap
  go_loopw [3] (fun q1 wr => ∃ (k n g cap2 : Nat), q1 = .slice (some ⟨g, 0, none⟩) n cap2 ∧ n = len + k ∧ k ≤ Obol.padN len ∧ Hid (OwnB wr w.heap.size (.slice (some ⟨g, 0, none⟩) n cap2) (B ++ List.replicate k 0)) ∧ Hid (Below w.heap.size w wr)) (fun q1 _ => len + 16 - sliceLen q1)
  case atStart => exact ⟨0, len, g, cap2, rfl, rfl, Nat.zero_le _, Lib.hid (by simpa using O.out), B1⟩
  case round =>
    clear O B1
    rename World => wr
    obtain ⟨k, n, g, cap2, rfl, hnk, hk, O, BE⟩ := hrel
    have hp : Obol.padN len < 16 := Nat.mod_lt _ (by decide)
    have hpe : Obol.padN len = (16 - len % 16) % 16 := rfl
    have ht : ((n : Nat) : Int).tmod 16 = (n : Int) % 16 := Int.tmod_eq_emod_of_nonneg (by omega)
    by_cases hkp : k < Obol.padN len
    · have hne : ((n : Int) % 16 != 0) = true := by simp; omega
      have hll : (B ++ List.replicate k 0).length = n := by rw [List.length_append, List.length_replicate, HB.out.len]; omega
      have hbs := BE.out.size
      obtain ⟨v', w2, hap, hO', hb', -, hnil⟩ := append_ownB (wr.alloc (.cells #[.int .u8 0] 5)) w.heap.size _ _ [0] (O.out.below (bAlloc (Below.refl _ wr) _)) ⟨wr.heap.size, 0, none⟩ 1 1 rfl (newsB0 wr) (by rw [hll]; simp; omega) (by simp; omega)
      obtain ⟨g2, cap3, rfl⟩ := own_shape hO' (fun h => by cases (hnil.1 h).1)
      have hll2 : (B ++ List.replicate k 0 ++ [0]).length = n + 1 := by rw [List.length_append, hll]; rfl
      rw [hll2] at hap hO'
      have er : B ++ List.replicate k 0 ++ [0] = B ++ List.replicate (k + 1) 0 := by rw [List.append_assoc, List.replicate_succ']
      rw [er] at hO'
      have ON := Lib.hid hO'
      have BN := Lib.hid (BE.out.trans (((Below.refl w.heap.size wr).alloc hbs _).trans hb'))
      replace hnk := Lib.hid hnk
      replace hpe := Lib.hid hpe
      clear hO' hb' hnil er hll hll2 O BE
      go_wp2_with (at_builtin; refine wpList_appended rfl _ _ _ _ rfl _ _ _ rfl rfl hap ?_)
      go_roundw
      case rel => exact ⟨k + 1, n + 1, g2, cap3, rfl, by have := hnk.out; omega, by omega, ON, BN⟩
      case measure => have := hnk.out; simp [sliceLen]; omega
    · have hke : k = Obol.padN len := by omega
      have hne : ((n : Int) % 16 != 0) = false := by simp; omega
      have OF : Hid (OwnB wr w.heap.size (.slice (some ⟨g, 0, none⟩) n cap2) (Obol.fullL B)) := Lib.hid (by unfold Obol.fullL; rw [HB.out.len, ← hke]; exact O.out)
      rw [hke] at hnk
      have hnk := Lib.hid hnk
      clear hke hpe O
      go_wp2_with fail
      go_ret
      exact ⟨_, _, _, rfl, OF.out, hnk.out, BE.out⟩

end Go.Proofs.Ytallfmiikjmgaaa
