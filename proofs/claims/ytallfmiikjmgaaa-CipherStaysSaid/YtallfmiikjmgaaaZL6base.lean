import Derived.Test.YtallfmiikjmgaaaZWup6
import Derived.Deep.CutBlock
import Derived.Deep.DeepCutAuto
set_option linter.unusedVariables false
set_option linter.unusedSimpArgs false
/- Walks: the statements of layer 6: what they share. -/
namespace Go.Proofs.Ytallfmiikjmgaaa
open Go.RowKit

theorem sl6 {w : World} {ao : Option Addr} {len cap : Nat} {L : List Nat} (H : B8 len L) (hl : len ≤ cap) (hc : cap ≤ 9223372036854775807) (hn : ao = none → len = 0 ∧ cap = 0) (hb : 0 < len → ∃ b o, ao = some ⟨b, o, none⟩ ∧ BL w b o L) : SlI w.heap.size w ao cap L :=
  ⟨by rw [H.len]; exact hl, hc, (fun h => by rw [H.len]; exact hn h), fun h => by
    rw [H.len] at h
    obtain ⟨b, o, h1, h2⟩ := hb h
    exact ⟨b, o, h1, h2.lt (by rw [H.len]; exact h), h2⟩⟩
theorem SlI.up {base base' : Nat} {w : World} {ao : Option Addr} {cap : Nat} {L : List Nat} (h : SlI base w ao cap L) (hb : base ≤ base') : SlI base' w ao cap L :=
  ⟨h.le, h.cap, h.no, fun h0 => by
    obtain ⟨b, o, h1, h2, h3⟩ := h.bl h0
    exact ⟨b, o, h1, by omega, h3⟩⟩
/-- An argument in a later world. -/
theorem SlI.next {w W : World} {ao : Option Addr} {cap : Nat} {L : List Nat} (h : SlI w.heap.size w ao cap L) (hb : Below w.heap.size w W) : SlI W.heap.size W ao cap L := (h.below hb).up hb.size
theorem SlI.seg {base : Nat} {w : World} {ao : Option Addr} {len cap : Nat} {L : List Nat} (h : SlI base w ao cap L) (H : B8 len L) (hl : len ≤ 1000000) : Seg base w (.slice ao len cap) L := ⟨ao, cap, by rw [H.len], h, H.lt, by rw [H.len]; exact hl⟩
/-- A key, opened. -/
theorem SlI.key {w : World} {ao : Option Addr} {cap n : Nat} {L : List Nat} (h : SlI w.heap.size w ao cap L) (H : B8 n L) (h0 : 0 < n) : ∃ b o, ao = some ⟨b, o, none⟩ ∧ b < w.heap.size ∧ BL w b o L ∧ n ≤ cap := by
  obtain ⟨b, o, h1, h2, h3⟩ := h.bl (by rw [H.len]; exact h0)
  exact ⟨b, o, h1, h2, h3, by have := h.le; rw [H.len] at this; exact this⟩
theorem SlI.conv {base : Nat} {w : World} {ao : Option Addr} {len cap : Nat} {L : List Nat} (h : SlI base w ao cap L) (H : L.length = len) : (convert 22 9 (.slice ao len cap)).run Try.prog w = .ok (.string (strB L)) w := by
  subst H
  exact convAny rfl h.arg.2
theorem strB_app (L M : List Nat) : strB L ++ strB M = strB (L ++ M) := by
  unfold strB
  rw [List.map_append]
  apply ByteArray.ext
  apply Array.toList_inj.1
  simp [strOfNums]
theorem strB_size (L : List Nat) : (strB L).size = L.length := by unfold strB; rw [strOfNums_size, List.length_map]
set_option maxRecDepth 8000 in
theorem lFitsY (a b : Option Addr) (c d : Nat) (w : World) :
    Calls Try.prog 16 #[.slice a 32 c, .slice b 12 d] w fun e w' => e = .returned (.bool true) ∧ w' = w := by
  go_enter Try.func16, Try.ntmps16
  go_wp2
  go_ret
  exact ⟨rfl, rfl⟩
set_option maxRecDepth 8000 in
theorem lFitsN (a b : Option Addr) (m n c d : Nat) (h : ¬ (m = 32 ∧ n = 12)) (w : World) :
    Calls Try.prog 16 #[.slice a m c, .slice b n d] w fun e w' => e = .returned (.bool false) ∧ w' = w := by
  by_cases h1 : m = 32
  · have h2 : ((n : Int) == 12) = false := beq_eq_false_iff_ne.2 (by omega)
    have h3 : ((m : Int) == 32) = true := beq_iff_eq.2 (by omega)
    clear h h1
    go_enter Try.func16, Try.ntmps16
    go_wp2
    go_ret
    exact ⟨rfl, rfl⟩
  · have h3 : ((m : Int) == 32) = false := beq_eq_false_iff_ne.2 (by omega)
    clear h h1
    go_enter Try.func16, Try.ntmps16
    go_wp2
    go_ret
    exact ⟨rfl, rfl⟩

end Go.Proofs.Ytallfmiikjmgaaa
