import Derived.Test.YtcdfpceagobicaaDoorLperson
import Derived.Test.YtcdfpceagobicaaDoorWstay
import Derived.Deep.CutBlock
import Derived.Deep.DeepCutAuto
/- The walk of the law BlakeStays. -/
namespace Go.Proofs.YtcdfpceagobicaaDoor
open Go.RowKit

theorem SlI.at {w W : World} {a : Option Addr} {c : Nat} {R : List Nat} (h : SlI w.heap.size w a c R) (hw : Below w.heap.size w W) : SlI W.heap.size W a c R :=
  ⟨h.le, h.cap, h.no, fun h0 => by
    obtain ⟨b, o, h1, h2, h3⟩ := h.bl h0
    exact ⟨b, o, h1, Nat.lt_of_lt_of_le h2 hw.size, h3.below hw h2⟩⟩
theorem own_sl {w : World} {base g n cap : Nat} {L : List Nat} (h : OwnB w base (.slice (some ⟨g, 0, none⟩) n cap) L) (hn : L.length = n) : SlI w.heap.size w (some ⟨g, 0, none⟩) cap L := by
  subst hn
  exact ⟨(own_cap h).1, (own_cap h).2, (fun h => by cases h), fun _ => ⟨g, 0, rfl, own_lt h, h.bl⟩⟩

set_option maxHeartbeats 2000000 in
theorem walkStays5 (w : World) (hG : RowsAt w) (ao : Option Addr) (len cap : Nat) (L : List Nat) (H : B8 len L) (hl : len ≤ cap) (hc : cap ≤ 9223372036854775807) (hn : ao = none → len = 0 ∧ cap = 0) (hb : 0 < len → ∃ b o, ao = some ⟨b, o, none⟩ ∧ BL w b o L) :
    Calls Tryd.prog 5 #[.slice ao len cap] w fun e w' => e = .returned (.bool true) ∧ Below w.heap.size w w' := by
  have hU := Lib.hid (up5 w hG)
  have hS : SlI w.heap.size w ao cap L := ⟨by rw [H.len]; exact hl, hc, (fun h => by rw [H.len]; exact hn h), fun h => by
    rw [H.len] at h
    obtain ⟨b, o, h1, h2⟩ := hb h
    exact ⟨b, o, h1, h2.lt (by rw [H.len]; exact h), h2⟩⟩
  have hlen : (len : Int) ≤ 9223372036854775807 := by omega
  by_cases h5 : 5000 < len
  · have h5' : (5000 : Int) < (len : Int) := by omega
    clear hS
    go_enter Tryd.func5, Tryd.ntmps5
    go_wp2_with fail
    refine hU.out.mono ?_
    rintro e w1 ⟨rfl, hb1⟩
    replace hb1 := Lib.hid hb1
    go_wp2_with fail
    go_ret
    exact ⟨rfl, hb1.out⟩
  · have h5' : (len : Int) ≤ 5000 := by omega
    have cX := fun W (ao : Option Addr) (len cap : Nat) (H : B8 len L) (hS : SlI W.heap.size W ao cap L) (hw : Below w.heap.size w W) => bSum2 ({ data := #[120] } : ByteArray) (by decide) ao len cap L H W hS (hG.below hw)
    have hD : Hid ((Obol.sumL (strL { data := #[120] }) L).length = 32) := Lib.hid (sumL_len _ _ (strL_lt _))
    have hD8 : Hid (B8 32 (Obol.sumL (strL { data := #[120] }) L)) := Lib.hid (sumL_b8 _ _ (strL_lt _))
    generalize Obol.sumL (strL { data := #[120] }) L = D at cX hD hD8
    replace cX := Lib.hid cX
    have hS' := Lib.hid hS
    have H' := Lib.hid H
    have hb' := Lib.hid hb
    have hn' := Lib.hid hn
    clear hS hb H hn
    obtain ⟨ti, hti, htz, hts, htb⟩ := info_parts info8
    go_enter Tryd.func5, Tryd.ntmps5
    go_wp2_with fail
    refine hU.out.mono ?_
    rintro e w1 ⟨rfl, hb1⟩
    have z1 := hb1.size
    replace hb1 := Lib.hid hb1
    go_upto_region 4 with fail
    go_upto_region 4 with fail
    go_cut [4] (fun v wc => ∃ g cap2, v = .slice (some ⟨g, 0, none⟩) len cap2 ∧ Hid (Cp w w1 wc g cap2 len L))
    case first =>
      cases ao with
      | none =>
        obtain ⟨rfl, rfl⟩ := hn'.out rfl
        have hL0 : L = [] := List.length_eq_zero_iff.1 H'.out.len
        have hO1 := own_empty w1 w1.heap.size (Nat.le_refl _)
        go_wp2_with (first
          | (at_builtin; refine wpList_append_own_none rfl _ _ 22 rfl w1.heap.size 5 ti 1 Tryd.underlying22 hti _ 0 [] rfl hO1 rfl ?_)
          | go_in)
        go_meet
        exact ⟨_, _, rfl, Lib.hid ⟨by rw [hL0]; exact hO1, bAlloc (Below.refl _ _) _⟩⟩
      | some ad =>
        have hO1 := own_empty w1 w1.heap.size (Nat.le_refl _)
        have hnews : ∀ j u, (U8 L)[j]? = some u → (w1.alloc (.cells #[] 5)).cell? (ad.add j) = some u := fun j u hu => by
          have hj : j < L.length := by
            have := (List.getElem?_eq_some_iff.1 hu).1
            simpa using this
          obtain ⟨b, o, h1, h2⟩ := hb'.out (by have := H'.out.len; omega)
          obtain rfl := Option.some.inj h1
          have h3 := (h2.below hb1.out (h2.lt (by omega))).below (B := w1.heap.size) (bAlloc (Below.refl _ _) (.cells #[] 5)) (Nat.lt_of_lt_of_le (h2.lt (by omega)) z1)
          rw [addB, h3 j hj]
          rw [List.getElem?_map, List.getElem?_eq_getElem hj] at hu
          rw [List.getD_eq_getElem?_getD, List.getElem?_eq_getElem hj]
          simpa using hu
        go_wp2_with (first
          | (at_builtin; refine wpList_append_own _ rfl _ _ 22 rfl w1.heap.size 5 ti (.int .u8 0) 1 1 Tryd.underlying22 hti htz hts htb rfl (by decide) _ 0 [] rfl hO1 ad len cap (U8 L) rfl (by simp [H'.out.len]) hnews (fun u hu => by obtain ⟨x, _, rfl⟩ := List.mem_map.1 hu; rfl) (by unfold maxLen; omega) (by omega) (by simp) ?_)
          | go_in)
        intro v' w2 hown' hgrow hnil
        have hv' : v' ≠ .slice none 0 0 := fun h => by first | exact hnil h | cases (hnil.1 h).1
        have hO2 : OwnB w2 w1.heap.size v' L := by
          unfold OwnB
          rw [H'.out.len]
          simpa using hown'
        obtain ⟨g, cap2, rfl⟩ := own_shape hO2 hv'
        have hb2 : Below w1.heap.size w1 w2 := (bAlloc (Below.refl w1.heap.size w1) (.cells #[] 5)).grown hgrow (by simp) (fun q hq => by simp [Value.ownBlock] at hq; omega)
        have hL2 := H'.out.len
        have CP : Hid (Cp w w1 w2 g cap2 len L) := Lib.hid ⟨by have h := hO2; rw [hL2] at h; exact h, hb2⟩
        rw [hL2]
        clear hown' hgrow hnil hO2 hb2 hv' hnews hO1 hL2
        go_wp2
        go_meet
        exact ⟨_, _, rfl, CP⟩
    case' rest =>
      rename World => w2
      obtain ⟨g, cap2, rfl, CP⟩ := hcut
      have hW2 := Lib.hid (hb1.out.trans (CP.out.bel.mono z1))
      have hSo := own_sl CP.out.own H'.out.len
      have hgg := own_lt CP.out.own
      have hg1 := own_ge CP.out.own
      go_wp2_with fail
      refine (cX.out _ _ _ _ H'.out hSo hW2.out).mono ?_
      rintro e w3 ⟨g3, cap3, rfl, hg3, hO3, hb3⟩
      have hW3 := Lib.hid (bThen hW2.out hb3 hW2.out.size)
      have hOw3 := CP.out.own.below hb3
      have k1 := convAny (ao := some ⟨g, 0, none⟩) (cap := cap2) (w := w3) H'.out.len (fun h => ⟨g, 0, rfl, (own_sl hOw3 H'.out.len).bl (by rw [H'.out.len]; exact h) |>.elim fun b q => by obtain ⟨o, h1, _, h2⟩ := q; cases h1; exact h2⟩)
      have k2 := convAny (ao := ao) (cap := cap) (w := w3) H'.out.len (fun h => by
        obtain ⟨b, o, h1, h2⟩ := hb'.out h
        exact ⟨b, o, h1, h2.below hW3.out (h2.lt (by rw [H'.out.len]; exact h))⟩)
      replace hOw3 := Lib.hid hOw3
      replace hO3 := Lib.hid hO3
      clear hb3 hSo CP hW2
      go_wp2_with fail
      clear k1 k2
      go_loopw [8] (fun q wr => ∃ i : Int, q = .int .i64 i ∧ Hid (LoI w1.heap.size wr g cap2 len i) ∧ Hid (OwnB wr w2.heap.size (.slice (some ⟨g3, 0, none⟩) 32 cap3) D) ∧ Hid (Below w.heap.size w wr)) (fun q _ => len - (intOf q).toNat)
      case atStart => exact ⟨0, rfl, Lib.hid ⟨by omega, by omega, L, H'.out.len, H'.out.lt, hOw3.out⟩, hO3, hW3⟩
      case round =>
        clear hOw3 hO3 hW3
        obtain ⟨i, rfl, HL, HO, HB⟩ := hrel
        have i0 := HL.out.1
        have i1 := HL.out.2.1
        by_cases hi : i < len
        · obtain ⟨v, cv, fv, v0, v1, HN⟩ := HL.out.step hi
          replace HN := Lib.hid HN
          have HO2 := Lib.hid (own_other (b := g) (o := i.toNat) (u := .int .u8 ((v + 1) % 256)) HO.out (by omega))
          have HB2 := Lib.hid (bSet (b := g) (o := i.toNat) (u := .int .u8 ((v + 1) % 256)) HB.out (by omega))
          clear HL HO HB
          go_wp2_with fail
          go_roundw
          case rel => (first | exact ⟨_, rfl, HN, HO2, HB2⟩ | (repeat apply Exists.intro; exact ⟨⟨_, rfl, HN, HO2, HB2⟩, rfl⟩))
          case measure => (first | (simp [intOf]; omega) | (show len - (intOf (.int .i64 (i + 1))).toNat < len - (intOf (.int .i64 i)).toNat; simp [intOf]; omega))
        · obtain rfl : i = len := by omega
          have k3 := HO.out.conv hD.out
          go_wp2_with fail
          clear k3
          go_loopw [10] (fun q wr => ∃ i : Int, q = .int .i64 i ∧ Hid (LoI w2.heap.size wr g3 cap3 32 i) ∧ Hid (Below w.heap.size w wr)) (fun q _ => 32 - (intOf q).toNat)
          case atStart => exact ⟨0, rfl, Lib.hid ⟨by omega, by omega, D, hD.out, hD8.out.lt, HO.out⟩, HB⟩
          case round =>
            clear HO HB HL
            obtain ⟨i, rfl, HL, HB⟩ := hrel
            have j0 := HL.out.1
            have j1 := HL.out.2.1
            by_cases hi : i < 32
            · obtain ⟨v, cv, fv, v0, v1, HN⟩ := HL.out.step (by omega)
              replace HN := Lib.hid HN
              have HB2 := Lib.hid (bSet (b := g3) (o := i.toNat) (u := .int .u8 ((v + 1) % 256)) HB.out (by omega))
              clear HL HB
              go_wp2_with fail
              go_roundw
              case rel => (first | exact ⟨_, rfl, HN, HB2⟩ | (repeat apply Exists.intro; exact ⟨⟨_, rfl, HN, HB2⟩, rfl⟩))
              case measure => (first | (simp [intOf]; omega) | (show 32 - (intOf (.int .i64 (i + 1))).toNat < 32 - (intOf (.int .i64 i)).toNat; simp [intOf]; omega))
            · obtain rfl : i = 32 := by omega
              clear HL
              go_wp2_with fail
              refine (cX.out _ _ _ _ H'.out (hS'.out.at HB.out) HB.out).mono ?_
              rintro e w6 ⟨g6, cap6, rfl, hg6, hO6, hb6⟩
              have k4 := hO6.conv hD.out
              have B6 := Lib.hid (bThen HB.out hb6 HB.out.size)
              clear hO6 hb6 HB
              go_wp2_with fail
              go_ret
              exact ⟨rfl, B6.out⟩

end Go.Proofs.YtcdfpceagobicaaDoor
