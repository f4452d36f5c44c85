import Derived.Test.YtallfmiikjmgaaaDoorZWsum0
import Derived.Test.YtallfmiikjmgaaaDoorME
set_option linter.unusedVariables false
set_option linter.unusedSimpArgs false
/- Bytes copied into an array of bytes. -/
namespace Go.Proofs.YtallfmiikjmgaaaDoor
open Go.RowKit

set_option maxRecDepth 8000 in
theorem copy8 (W : World) (g : Nat) (C : List Nat) (t : TypeId) (R0 : Row W g (u8s C) t) (n dc b o c : Nat) (L : List Nat) (hn : n ≤ C.length) (hc : BL W b o L) :
    (Builtin.copy_ #[42, 42] 3 #[.slice (some ⟨g, 0, none⟩) n dc, .slice (some ⟨b, o, none⟩) L.length c]).run Tryd.prog W = .ok (goInt (min n L.length : Nat)) (W.setRow g (u8s (L.take n ++ C.drop (min n L.length)))) := by
  have hl : (U8 (L.take n)).length = min n L.length := by simp
  have h := run_copy_row (P := Tryd.prog) W 42 42 3 5 g 0 n dc ⟨b, o, none⟩ L.length c (u8s C) t (U8 (L.take n)) Tryd.underlying42 sizeU8 R0
    (by rw [hl]; exact Nat.min_comm _ _) (fun i v hi => by
      have hil : i < (L.take n).length := by
        have := (List.getElem?_eq_some_iff.1 hi).1
        simpa using this
      rw [addP, hc i (by rw [List.length_take] at hil; omega)]
      rw [List.getElem?_map, List.getElem?_eq_getElem hil] at hi
      rw [List.getElem_take] at hi
      rw [List.getD_eq_getElem?_getD, List.getElem?_eq_getElem (by rw [List.length_take] at hil; omega)]
      simpa using hi)
    (by rw [u8s_size]; simp; omega) (fun v hv => by
      obtain ⟨x, _, rfl⟩ := List.mem_map.1 hv
      rfl)
  rw [h, hl]
  congr 2
  unfold u8s
  simp only [List.take_zero, List.nil_append, Nat.zero_add, List.map_append, List.map_drop]
theorem setRow_row8 {w : World} {g : Nat} {cs cs' : Array Value} {t : TypeId} (h : Row w g cs t) : Row (w.setRow g cs') g cs' t := setRow_row h

end Go.Proofs.YtallfmiikjmgaaaDoor
