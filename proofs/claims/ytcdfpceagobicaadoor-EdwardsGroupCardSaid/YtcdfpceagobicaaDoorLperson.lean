import Derived.Test.YtcdfpceagobicaaDoorWup5
import Derived.Laws.Concat
/- The walk of the law BlakePerson. -/
namespace Obol
theorem getD_zero (p : List Nat) (i : Nat) : (p ++ [0]).getD i 0 = p.getD i 0 := by
  rw [List.getD_eq_getElem?_getD, List.getD_eq_getElem?_getD, List.getElem?_append]
  split
  · rfl
  · rename_i h
    rw [List.getElem?_eq_none (show p.length ≤ i by omega)]
    match h2 : i - p.length with
    | 0 => rfl
    | k + 1 => rfl
theorem initH_zero (p : List Nat) : initH (p ++ [0]) = initH p := by
  unfold initH wordAt
  simp only [getD_zero]
theorem stH_zero (p b : List Nat) : ∀ j, stH (p ++ [0]) b j = stH p b j
  | 0 => initH_zero p
  | j + 1 => by rw [stH, stH, stH_zero p b j]
theorem sumL_zero (p b : List Nat) : sumL (p ++ [0]) b = sumL p b := by unfold sumL; rw [stH_zero]
end Obol
namespace Go.Proofs.YtcdfpceagobicaaDoor
open Go.RowKit

theorem OwnB.conv {w : World} {base g cap : Nat} {L : List Nat} (h : OwnB w base (.slice (some ⟨g, 0, none⟩) 32 cap) L) (hl : L.length = 32) :
    (convert 22 9 (.slice (some ⟨g, 0, none⟩) 32 cap)).run Tryd.prog w = .ok (.string (strB L)) w :=
  conv8 (hl ▸ h : OwnB w base (.slice (some ⟨g, 0, none⟩) L.length cap) L).bl hl

set_option maxHeartbeats 1000000 in
theorem walkPerson (w : World) (hG : RowsAt w) (s : ByteArray) (hs : s.size ≤ maxLen) (ao : Option Addr) (len cap : Nat) (L : List Nat) (H : B8 len L) (hl : len ≤ cap) (hc : cap ≤ 9223372036854775807) (hn : ao = none → len = 0 ∧ cap = 0) (hb : 0 < len → ∃ b o, ao = some ⟨b, o, none⟩ ∧ BL w b o L) :
    Calls Tryd.prog 4 #[.string s, .slice ao len cap] w fun e w' => e = .returned (.bool true) ∧ Below w.heap.size w w' := by
  have hU := Lib.hid (up5 w hG)
  have hS : SlI w.heap.size w ao cap L := ⟨by rw [H.len]; exact hl, hc, (fun h => by rw [H.len]; exact hn h), fun h => by
    rw [H.len] at h
    obtain ⟨b, o, h1, h2⟩ := hb h
    exact ⟨b, o, h1, h2.lt (by rw [H.len]; exact h), h2⟩⟩
  have hlen : (len : Int) ≤ 9223372036854775807 := by omega
  have hsm : (s.size : Int) ≤ 9223372036854775807 := by unfold maxLen at hs; omega
  by_cases h7 : 7 < s.size
  · have h7' : (7 : Int) < (s.size : Int) := by omega
    clear hS
    go_enter Tryd.func4, Tryd.ntmps4
    go_wp2_with fail
    refine hU.out.mono ?_
    rintro e w1 ⟨rfl, hb1⟩
    replace hb1 := Lib.hid hb1
    go_wp2_with fail
    go_ret
    exact ⟨rfl, hb1.out⟩
  · have h7' : (s.size : Int) ≤ 7 := by omega
    by_cases h5 : 5000 < len
    · have h5' : (5000 : Int) < (len : Int) := by omega
      clear hS
      go_enter Tryd.func4, Tryd.ntmps4
      go_wp2_with fail
      refine hU.out.mono ?_
      rintro e w1 ⟨rfl, hb1⟩
      replace hb1 := Lib.hid hb1
      go_wp2_with fail
      go_ret
      exact ⟨rfl, hb1.out⟩
    · have h5' : (len : Int) ≤ 5000 := by omega
      have hsz : (s ++ ({ data := #[0] } : ByteArray)).size = s.size + 1 := by rw [ByteArray.size_append]; rfl
      have hst : strL (s ++ ({ data := #[0] } : ByteArray)) = strL s ++ [0] := by unfold strL; simp
      have hs1 : s.size ≤ 8 := by omega
      have hs2 : (s ++ ({ data := #[0] } : ByteArray)).size ≤ 8 := by omega
      have c1 := Lib.hid (fun W (hw : Below w.heap.size w W) => bSum2 s hs1 ao len cap L H W ⟨hS.le, hS.cap, hS.no, fun h => by
        obtain ⟨b, o, h1, h2, h3⟩ := hS.bl h
        exact ⟨b, o, h1, Nat.lt_of_lt_of_le h2 hw.size, h3.below hw h2⟩⟩ (hG.below hw))
      have c2' := fun W (hw : Below w.heap.size w W) => bSum2 (s ++ ({ data := #[0] } : ByteArray)) hs2 ao len cap L H W ⟨hS.le, hS.cap, hS.no, fun h => by
        obtain ⟨b, o, h1, h2, h3⟩ := hS.bl h
        exact ⟨b, o, h1, Nat.lt_of_lt_of_le h2 hw.size, h3.below hw h2⟩⟩ (hG.below hw)
      rw [hst, Obol.sumL_zero] at c2'
      have c2 := Lib.hid c2'
      have hD : Hid ((Obol.sumL (strL s) L).length = 32) := Lib.hid (sumL_len _ _ (strL_lt s))
      generalize Obol.sumL (strL s) L = D at c1 c2 hD
      clear c2' hS hst
      go_enter Tryd.func4, Tryd.ntmps4
      go_wp2_with fail
      refine hU.out.mono ?_
      rintro e w1 ⟨rfl, hb1⟩
      replace hb1 := Lib.hid hb1
      go_wp2_with fail
      refine (c1.out _ hb1.out).mono ?_
      rintro e w2 ⟨g, cap2, rfl, hg, hO, hb2⟩
      have B2 := Lib.hid (bThen hb1.out hb2 hb1.out.size)
      replace hO := Lib.hid hO
      clear hb2 hb1
      go_wp2_with fail
      refine (c2.out _ B2.out).mono ?_
      rintro e w3 ⟨g2, cap3, rfl, hg2, hO2, hb3⟩
      have k1 := (hO.out.below hb3).conv hD.out
      have k2 := hO2.conv hD.out
      have B3 := Lib.hid (bThen B2.out hb3 B2.out.size)
      clear hb3 hO2 hO B2
      go_wp2_with fail
      go_ret
      exact ⟨rfl, B3.out⟩

end Go.Proofs.YtcdfpceagobicaaDoor
