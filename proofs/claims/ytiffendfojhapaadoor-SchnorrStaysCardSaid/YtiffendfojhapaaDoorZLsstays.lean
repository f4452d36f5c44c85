import Derived.Test.YtiffendfojhapaaDoorZWup9
import Derived.Test.YtiffendfojhapaaDoorZLsums
set_option linter.unusedVariables false
set_option linter.unusedSimpArgs false
/- The walk of the law SchnorrStays. -/
namespace Go.Proofs.YtiffendfojhapaaDoor
open Go.RowKit

theorem no00 : inN ((0 : Int).toNat, (0 : Int).toNat) = false := inN_far (by rw [Obol.isN_eq]; decide +kernel)
theorem own_sl' {w W : World} {base g n cap : Nat} {L : List Nat} (h : OwnB w base (.slice (some ⟨g, 0, none⟩) n cap) L) (hn : L.length = n) (hw : Below w.heap.size w W) : SlI W.heap.size W (some ⟨g, 0, none⟩) cap L := own_sl (h.below hw) hn

set_option maxRecDepth 8000 in
set_option maxHeartbeats 4000000 in
theorem walkSStays (w : World) (hG : RowsAt w) (k n : Int) (ao : Option Addr) (len cap : Nat) (M : List Nat) (H : B8 len M) (hl : len ≤ cap) (hc : cap ≤ 9223372036854775807) (hn : ao = none → len = 0 ∧ cap = 0) (hb : 0 < len → ∃ b o, ao = some ⟨b, o, none⟩ ∧ BL w b o M) (k0 : 0 ≤ k) (k1 : k ≤ 18446744073709551615) (n0 : 0 ≤ n) (n1 : n ≤ 18446744073709551615) :
    Calls Tryd.prog 8 #[.int .u64 k, .int .u64 n, .slice ao len cap] w fun e w' => e = .returned (.bool true) ∧ Below w.heap.size w w' := by
  have hU := Lib.hid (up9 w hG)
  have hS := Lib.hid (sl_of H hl hc hn hb)
  have hG' := Lib.hid hG
  replace H := Lib.hid H
  have hlc : (len : Int) ≤ (cap : Int) := by omega
  have hcm : (cap : Int) ≤ 9223372036854775807 := by omega
  have Hn := Lib.hid hn
  have Hb := Lib.hid hb
  clear hn hb hG
  by_cases h2 : 2000 < len
  · have h2' : (2000 : Int) < (len : Int) := by omega
    go_enter Tryd.func8, Tryd.ntmps8
    go_wp2_with fail
    refine (hU.out).mono ?_
    rintro e w1 ⟨rfl, hb1⟩
    have H1 := Lib.hid (HR.next (HR.refl w) hb1)
    clear hb1
    go_wp2_with fail
    go_ret
    exact ⟨rfl, H1.out.2⟩
  have h2' : (len : Int) ≤ 2000 := by omega
  by_cases hk : 1 ≤ k ∧ k < 72057593894066549
  · have cP := fun w => sPointY k hk.1 hk.2 w
    have hSP := Obol.smulG_S k.toNat
    have hPn := Obol.keyG_ne (k := k.toNat) (by omega) (by omega)
    by_cases hn : 1 ≤ n ∧ n < 72057593894066549
    · have cS := fun W (hw : Below w.heap.size w W) g cap2 hSo => sSignY k n hk.1 hk.2 hn.1 hn.2 (some ⟨g, 0, none⟩) len cap2 M H.out (by omega) W hSo (hG'.out.below hw)
      have hSA := Obol.smulG_S n.toNat
      have hse := Obol.sig_eq n.toNat (Obol.quesP (Obol.Pnt.smul n.toNat Obol.G) (Obol.Pnt.smul k.toNat Obol.G) M) k.toNat
      have hzl := Obol.sigZ_lt n.toNat (Obol.quesP (Obol.Pnt.smul n.toNat Obol.G) (Obol.Pnt.smul k.toNat Obol.G) M) k.toNat
      generalize Obol.Pnt.smul n.toNat Obol.G = A at *
      generalize Obol.Pnt.smul k.toNat Obol.G = P at *
      obtain ⟨ax, ay, ax0, ay0, -, -, hvA, -⟩ := coordsN A
      obtain ⟨px, py, px0, py0, -, -, hvP, -⟩ := coordsN P
      generalize Obol.sigZ n.toNat (Obol.quesP A P M) k.toNat = z0 at *
      obtain ⟨z, hz⟩ : ∃ z : Int, ((z0 : Nat) : Int) = z := ⟨_, rfl⟩
      have hz0 : z.toNat = z0 := by omega
      have hnz : ¬ (px = 0 ∧ py = 1) := fun h => hPn ((zero_of hvP).2 h)
      rw [hvP] at cP
      rw [hz, sig_of hvA] at cS
      have cV := fun W (hw : Below w.heap.size w W) g cap2 hSo => sVerY px py ax ay z px0 py0 ax0 ay0 (by omega) (by omega) (some ⟨g, 0, none⟩) len cap2 hnz A P hvA hvP hSA hSP (by omega) M H.out (by omega) (by rw [hz0]; exact hse) W hSo (hG'.out.below hw)
      replace cS := Lib.hid cS
      replace cV := Lib.hid cV
      replace cP := Lib.hid cP
      clear hnz hz hz0 hvA hvP hzl hse hSA hSP hPn hk hn
      go_enter Tryd.func8, Tryd.ntmps8
      go_wp2_with fail
      refine (hU.out).mono ?_
      rintro e w1 ⟨rfl, hb1⟩
      have H1 := Lib.hid (HR.next (HR.refl w) hb1)
      clear hb1
      obtain ⟨g, cap2, w2, hap, hO2, hbw2⟩ := append_copy w1 ao len cap M H.out.len (by omega) Hn.out (fun h => by
        obtain ⟨b, o, e1, e2⟩ := Hb.out h
        exact ⟨b, o, e1, e2.below H1.out.2 (e2.lt (by rw [H.out.len]; exact h))⟩)
      have H2 := Lib.hid (H1.out.next hbw2)
      have O2 := Lib.hid hO2
      clear hbw2 hO2 H1
      go_wp2_with (at_builtin; refine wpList_appended rfl _ _ _ _ rfl _ _ _ rfl rfl hap ?_)
      clear hap
      refine (cS.out _ H2.out.2 _ _ (own_sl O2.out H.out.len)).mono ?_
      rintro e w3 ⟨rfl, hb3⟩
      have H3 := Lib.hid ((H2.out.next hb3).new #[.int .u64 ax, .int .u64 ay, .int .u64 z] 44)
      have O3 := Lib.hid ((O2.out.below hb3).below (bAlloc (Below.refl _ w3) (.cells #[.int .u64 ax, .int .u64 ay, .int .u64 z] 44)))
      clear hb3 H2 O2
      go_wp2_with fail
      generalize w3.alloc (.cells #[.int .u64 ax, .int .u64 ay, .int .u64 z] 44) = w4 at H3 O3 ⊢
      generalize w3.heap.size = b9 at H3 ⊢
      refine (cP.out _).mono ?_
      rintro e w5 ⟨rfl, hb5⟩
      have H5 := Lib.hid ((H3.out.next hb5).new #[.int .u64 px, .int .u64 py] 37)
      have O5 := Lib.hid ((O3.out.below hb5).below (bAlloc (Below.refl _ w5) (.cells #[.int .u64 px, .int .u64 py] 37)))
      clear hb5 H3 O3
      go_upto_region 7 with fail
      generalize w5.alloc (.cells #[.int .u64 px, .int .u64 py] 37) = w6 at H5 O5 ⊢
      generalize w5.heap.size = b11 at H5 ⊢
      have c_b11_0 := H5.out.cell (b := b11) (cs := #[.int .u64 px, .int .u64 py]) (t := 37) (by simp) 0 rfl
      have c_b11_1 := H5.out.cell (b := b11) (cs := #[.int .u64 px, .int .u64 py]) (t := 37) (by simp) 1 rfl
      have c_b9_0 := H5.out.cell (b := b9) (cs := #[.int .u64 ax, .int .u64 ay, .int .u64 z]) (t := 44) (by simp) 0 rfl
      have c_b9_1 := H5.out.cell (b := b9) (cs := #[.int .u64 ax, .int .u64 ay, .int .u64 z]) (t := 44) (by simp) 1 rfl
      have c_b9_2 := H5.out.cell (b := b9) (cs := #[.int .u64 ax, .int .u64 ay, .int .u64 z]) (t := 44) (by simp) 2 rfl
      go_wp2_with fail
      refine (cV.out _ H5.out.2 _ _ (own_sl O5.out H.out.len)).mono ?_
      rintro e w7 ⟨rfl, hb7⟩
      have H7 := Lib.hid (H5.out.next hb7)
      have O7 := O5.out.below hb7
      have k1 := convAny (ao := some ⟨g, 0, none⟩) (cap := cap2) (w := w7) H.out.len (fun h => ⟨g, 0, rfl, own_blz O7 H.out.len⟩)
      have k2 := convAny (ao := ao) (cap := cap) (w := w7) H.out.len (fun h => by
        obtain ⟨b, o, e1, e2⟩ := Hb.out h
        exact ⟨b, o, e1, e2.below H7.out.2 (e2.lt (by rw [H.out.len]; exact h))⟩)
      clear hb7 O7 O5 H5
      clear c_b11_0 c_b11_1 c_b9_0 c_b9_1 c_b9_2
      go_wp2_with fail
      go_ret
      exact ⟨rfl, H7.out.2⟩
    · have hKk := Lib.hid hk
      have hKn := Lib.hid hn
      generalize Obol.Pnt.smul k.toNat Obol.G = P at *
      obtain ⟨px, py, px0, py0, -, -, hvP, -⟩ := coordsN P
      have hnz : ¬ (px = 0 ∧ py = 1) := fun h => hPn ((zero_of hvP).2 h)
      rw [hvP] at cP
      have cV := Lib.hid (fun cap2 W g => sVerA px py 0 0 0 px0 py0 (by omega) (by omega) (by omega) (by omega) (some ⟨g, 0, none⟩) len cap2 hnz no00 W)
      replace cP := Lib.hid cP
      clear hnz hvP hSP hPn hk hn
      go_enter Tryd.func8, Tryd.ntmps8
      go_wp2_with fail
      refine (hU.out).mono ?_
      rintro e w1 ⟨rfl, hb1⟩
      have H1 := Lib.hid (HR.next (HR.refl w) hb1)
      clear hb1
      obtain ⟨g, cap2, w2, hap, hO2, hbw2⟩ := append_copy w1 ao len cap M H.out.len (by omega) Hn.out (fun h => by
        obtain ⟨b, o, e1, e2⟩ := Hb.out h
        exact ⟨b, o, e1, e2.below H1.out.2 (e2.lt (by rw [H.out.len]; exact h))⟩)
      have H2 := Lib.hid (H1.out.next hbw2)
      have O2 := Lib.hid hO2
      clear hbw2 hO2 H1
      go_wp2_with (at_builtin; refine wpList_appended rfl _ _ _ _ rfl _ _ _ rfl rfl hap ?_)
      clear hap
      refine (sSignN k n hKk.out.1 hKk.out.2 n0 hKn.out _ len _ _).mono ?_
      rintro e w3 ⟨rfl, hb3⟩
      have H3 := Lib.hid ((H2.out.next hb3).new #[.int .u64 0, .int .u64 0, .int .u64 0] 44)
      have O3 := Lib.hid ((O2.out.below hb3).below (bAlloc (Below.refl _ w3) (.cells #[.int .u64 0, .int .u64 0, .int .u64 0] 44)))
      clear hb3 H2 O2
      go_wp2_with fail
      generalize w3.alloc (.cells #[.int .u64 0, .int .u64 0, .int .u64 0] 44) = w4 at H3 O3 ⊢
      generalize w3.heap.size = b9 at H3 ⊢
      refine (cP.out _).mono ?_
      rintro e w5 ⟨rfl, hb5⟩
      have H5 := Lib.hid ((H3.out.next hb5).new #[.int .u64 px, .int .u64 py] 37)
      have O5 := Lib.hid ((O3.out.below hb5).below (bAlloc (Below.refl _ w5) (.cells #[.int .u64 px, .int .u64 py] 37)))
      clear hb5 H3 O3
      go_upto_region 7 with fail
      generalize w5.alloc (.cells #[.int .u64 px, .int .u64 py] 37) = w6 at H5 O5 ⊢
      generalize w5.heap.size = b11 at H5 ⊢
      have c_b11_0 := H5.out.cell (b := b11) (cs := #[.int .u64 px, .int .u64 py]) (t := 37) (by simp) 0 rfl
      have c_b11_1 := H5.out.cell (b := b11) (cs := #[.int .u64 px, .int .u64 py]) (t := 37) (by simp) 1 rfl
      have c_b9_0 := H5.out.cell (b := b9) (cs := #[.int .u64 0, .int .u64 0, .int .u64 0]) (t := 44) (by simp) 0 rfl
      have c_b9_1 := H5.out.cell (b := b9) (cs := #[.int .u64 0, .int .u64 0, .int .u64 0]) (t := 44) (by simp) 1 rfl
      have c_b9_2 := H5.out.cell (b := b9) (cs := #[.int .u64 0, .int .u64 0, .int .u64 0]) (t := 44) (by simp) 2 rfl
      go_wp2_with fail
      refine (cV.out _ _ _).mono ?_
      rintro e w7 ⟨rfl, hb7⟩
      have H7 := Lib.hid (H5.out.next hb7)
      have O7 := O5.out.below hb7
      have k1 := convAny (ao := some ⟨g, 0, none⟩) (cap := cap2) (w := w7) H.out.len (fun h => ⟨g, 0, rfl, own_blz O7 H.out.len⟩)
      have k2 := convAny (ao := ao) (cap := cap) (w := w7) H.out.len (fun h => by
        obtain ⟨b, o, e1, e2⟩ := Hb.out h
        exact ⟨b, o, e1, e2.below H7.out.2 (e2.lt (by rw [H.out.len]; exact h))⟩)
      clear hb7 O7 O5 H5
      clear c_b11_0 c_b11_1 c_b9_0 c_b9_1 c_b9_2
      go_wp2_with fail
      go_ret
      exact ⟨rfl, H7.out.2⟩
  · have hKk := Lib.hid hk
    have cV := Lib.hid (fun cap2 W g => sVerA 0 0 0 0 0 (by omega) (by omega) (by omega) (by omega) (by omega) (by omega) (some ⟨g, 0, none⟩) len cap2 (by omega) no00 W)
    clear hk
    go_enter Tryd.func8, Tryd.ntmps8
    go_wp2_with fail
    refine (hU.out).mono ?_
    rintro e w1 ⟨rfl, hb1⟩
    have H1 := Lib.hid (HR.next (HR.refl w) hb1)
    clear hb1
    obtain ⟨g, cap2, w2, hap, hO2, hbw2⟩ := append_copy w1 ao len cap M H.out.len (by omega) Hn.out (fun h => by
      obtain ⟨b, o, e1, e2⟩ := Hb.out h
      exact ⟨b, o, e1, e2.below H1.out.2 (e2.lt (by rw [H.out.len]; exact h))⟩)
    have H2 := Lib.hid (H1.out.next hbw2)
    have O2 := Lib.hid hO2
    clear hbw2 hO2 H1
    go_wp2_with (at_builtin; refine wpList_appended rfl _ _ _ _ rfl _ _ _ rfl rfl hap ?_)
    clear hap
    refine (sSignK k n k0 hKk.out _ len _ _).mono ?_
    rintro e w3 ⟨rfl, hb3⟩
    have H3 := Lib.hid ((H2.out.next hb3).new #[.int .u64 0, .int .u64 0, .int .u64 0] 44)
    have O3 := Lib.hid ((O2.out.below hb3).below (bAlloc (Below.refl _ w3) (.cells #[.int .u64 0, .int .u64 0, .int .u64 0] 44)))
    clear hb3 H2 O2
    go_wp2_with fail
    generalize w3.alloc (.cells #[.int .u64 0, .int .u64 0, .int .u64 0] 44) = w4 at H3 O3 ⊢
    generalize w3.heap.size = b9 at H3 ⊢
    refine (sPointN k k0 hKk.out _).mono ?_
    rintro e w5 ⟨rfl, hb5⟩
    have H5 := Lib.hid ((H3.out.next hb5).new #[.int .u64 0, .int .u64 0] 37)
    have O5 := Lib.hid ((O3.out.below hb5).below (bAlloc (Below.refl _ w5) (.cells #[.int .u64 0, .int .u64 0] 37)))
    clear hb5 H3 O3
    go_upto_region 7 with fail
    generalize w5.alloc (.cells #[.int .u64 0, .int .u64 0] 37) = w6 at H5 O5 ⊢
    generalize w5.heap.size = b11 at H5 ⊢
    have c_b11_0 := H5.out.cell (b := b11) (cs := #[.int .u64 0, .int .u64 0]) (t := 37) (by simp) 0 rfl
    have c_b11_1 := H5.out.cell (b := b11) (cs := #[.int .u64 0, .int .u64 0]) (t := 37) (by simp) 1 rfl
    have c_b9_0 := H5.out.cell (b := b9) (cs := #[.int .u64 0, .int .u64 0, .int .u64 0]) (t := 44) (by simp) 0 rfl
    have c_b9_1 := H5.out.cell (b := b9) (cs := #[.int .u64 0, .int .u64 0, .int .u64 0]) (t := 44) (by simp) 1 rfl
    have c_b9_2 := H5.out.cell (b := b9) (cs := #[.int .u64 0, .int .u64 0, .int .u64 0]) (t := 44) (by simp) 2 rfl
    go_wp2_with fail
    refine (cV.out _ _ _).mono ?_
    rintro e w7 ⟨rfl, hb7⟩
    have H7 := Lib.hid (H5.out.next hb7)
    have O7 := O5.out.below hb7
    have k1 := convAny (ao := some ⟨g, 0, none⟩) (cap := cap2) (w := w7) H.out.len (fun h => ⟨g, 0, rfl, own_blz O7 H.out.len⟩)
    have k2 := convAny (ao := ao) (cap := cap) (w := w7) H.out.len (fun h => by
      obtain ⟨b, o, e1, e2⟩ := Hb.out h
      exact ⟨b, o, e1, e2.below H7.out.2 (e2.lt (by rw [H.out.len]; exact h))⟩)
    clear hb7 O7 O5 H5
    clear c_b11_0 c_b11_1 c_b9_0 c_b9_1 c_b9_2
    go_wp2_with fail
    go_ret
    exact ⟨rfl, H7.out.2⟩

end Go.Proofs.YtiffendfojhapaaDoor
