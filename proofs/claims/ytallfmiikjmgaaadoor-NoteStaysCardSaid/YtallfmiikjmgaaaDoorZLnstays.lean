import Derived.Test.YtallfmiikjmgaaaDoorMJ
import Derived.Test.YtallfmiikjmgaaaDoorZLnback
set_option linter.unusedVariables false
set_option linter.unusedSimpArgs false
/- Walks: layer 17: what is handed in stays, and what was told. -/
namespace Go.Proofs.YtallfmiikjmgaaaDoor
open Go.RowKit

set_option maxRecDepth 100000 in
theorem errNil0 (W : World) (a : Int) : (binOp .eql 25 (.iface 35 (.int .i64 a)) .nilIface).run Tryd.prog W = .ok (.bool false) W := by
  first | rfl | simp [binOp]
set_option maxRecDepth 100000 in
theorem nilNil0 (W : World) : (binOp .eql 25 .nilIface .nilIface).run Tryd.prog W = .ok (.bool true) W := by
  first | rfl | simp [binOp]
/-- What Open tells of any bytes. -/
theorem nOpenAll (k x y : Int) (x0 : 0 ≤ x) (y0 : 0 ≤ y) (len : Nat) (L : List Nat) (H : B8 len L) (hl : len ≤ 1000) :
    ∃ (a b c : Int) (E : Value), (E = .nilIface ∨ ∃ n : Int, E = errN n) ∧ (∀ ao cap (W : World), RowsAt W → SlI W.heap.size W ao cap L → Calls Tryd.prog 24 #[.int .u64 k, .agg #[.int .u64 x, .int .u64 y, .slice ao len cap]] W fun e' w' => e' = .returned (.tuple #[ntV a b c, E]) ∧ Below W.heap.size W w') := by
  by_cases hk : 1 ≤ k ∧ k < 288230376287764481
  · by_cases hp : inN (x.toNat, y.toNat) = true ∧ (x.toNat, y.toNat) ≠ (0, 1)
    · have hP := fun W => nPointT x y x0 y0 hp.1 hp.2 W
      have hEn := isN_of hp.1
      by_cases h16 : len < 16
      · exact ⟨0, 0, 0, errN 6, .inr ⟨6, rfl⟩, fun ao cap W hG _ => nOpenShort k x y hk.1 hk.2 x0 y0 hEn ao len cap h16 hP W hG⟩
      · obtain ⟨n, rfl⟩ : ∃ n, len = n + 16 := ⟨len - 16, by omega⟩
        by_cases hg : Obol.bothL (secL (x.toNat, y.toNat) (Obol.smulN (x.toNat, y.toNat) (Obol.scN k.toNat))) z12 [] (L.take n) = L.drop n
        · by_cases h2 : n = 16
          · subst h2
            have cI := fun ao cap W hG hS => nOpen k x y hk.1 hk.2 x0 y0 hEn ao cap L H hg hP W hG hS
            by_cases hm : Obol.num8 ((Obol.strm (secL (x.toNat, y.toNat) (Obol.smulN (x.toNat, y.toNat) (Obol.scN k.toNat))) z12 (L.take 16)).take 8) < 4294967296 ∧ Obol.num8 ((Obol.strm (secL (x.toNat, y.toNat) (Obol.smulN (x.toNat, y.toNat) (Obol.scN k.toNat))) z12 (L.take 16)).drop 8) < 288230376287764481
            · refine ⟨((Obol.num8 ((Obol.strm (secL (x.toNat, y.toNat) (Obol.smulN (x.toNat, y.toNat) (Obol.scN k.toNat))) z12 (L.take 16)).take 8) : Nat) : Int), ((Obol.twoN k.toNat 2 : Nat) : Int), ((Obol.num8 ((Obol.strm (secL (x.toNat, y.toNat) (Obol.smulN (x.toNat, y.toNat) (Obol.scN k.toNat))) z12 (L.take 16)).drop 8) : Nat) : Int), .nilIface, .inl rfl, fun ao cap W hG hS => (cI ao cap W hG hS).mono ?_⟩
              rintro e' w' ⟨⟨_, h⟩ | ⟨h, _⟩, hb⟩
              · exact ⟨h, hb⟩
              · exact (h hm).elim
            · refine ⟨0, 0, 0, errN 6, .inr ⟨6, rfl⟩, fun ao cap W hG hS => (cI ao cap W hG hS).mono ?_⟩
              rintro e' w' ⟨⟨h, _⟩ | ⟨_, h⟩, hb⟩
              · exact (hm h).elim
              · exact ⟨h, hb⟩
          · exact ⟨0, 0, 0, errN 6, .inr ⟨6, rfl⟩, fun ao cap W hG hS => nOpenLong k x y hk.1 hk.2 x0 y0 hEn ao n cap L H (by omega) h2 hg hP W hG hS⟩
        · exact ⟨0, 0, 0, errN 6, .inr ⟨6, rfl⟩, fun ao cap W hG hS => nOpenBad k x y hk.1 hk.2 x0 y0 hEn ao n cap L H (by omega) hg hP W hG hS⟩
    · exact ⟨0, 0, 0, errN 6, .inr ⟨6, rfl⟩, fun ao cap W _ _ => nOpenPoint k x y hk.1 hk.2 ao len cap (fun W => nPointF x y x0 y0 hp W) W⟩
  · exact ⟨0, 0, 0, errN 1, .inr ⟨1, rfl⟩, fun ao cap W _ _ => nOpenKey k x y ao len cap hk W⟩
set_option maxRecDepth 8000 in
set_option maxHeartbeats 8000000 in
theorem walkNStaysL (w : World) (G : Hid (RowsAt w)) (k x y v o r e : Int) (ao : Option Addr) (len cap : Nat) (hl : 1000 < len) :
    Calls Tryd.prog 7 #[.int .u64 k, .agg #[.int .u64 x, .int .u64 y, .slice ao len cap], ntV v o r, .int .u64 e] w fun e w' => e = .returned (.bool true) ∧ Below w.heap.size w w' := by
  have hl1 : (1000 : Int) < (len : Int) := by omega
  go_enter Tryd.func7, Tryd.ntmps7
  go_upto_region 1 with fail
  have HB := Lib.hid (((HR.refl w).new #[.int .u64 x, .int .u64 y, .slice ao len cap] 44).new #[.int .u64 v, .int .u64 o, .int .u64 r] 41)
  simp only [World.size_alloc] at HB
  generalize (w.alloc (.cells #[.int .u64 x, .int .u64 y, .slice ao len cap] 44)).alloc (.cells #[.int .u64 v, .int .u64 o, .int .u64 r] 41) = w0 at HB ⊢
  obtain ⟨b6, hb6⟩ : ∃ z, w.heap.size + 1 = z := ⟨_, rfl⟩
  obtain ⟨b5, hb5⟩ : ∃ z, w.heap.size = z := ⟨_, rfl⟩
  have H0 : Hid (HR w w0 [(b6, #[.int .u64 v, .int .u64 o, .int .u64 r], 41), (b5, #[.int .u64 x, .int .u64 y, .slice ao len cap], 44)]) := Lib.hid (by rw [← hb6, ← hb5]; exact HB.out)
  rw [hb6, hb5]
  replace hb5 := Lib.hid hb5
  replace hb6 := Lib.hid hb6
  clear HB
  have c_b6_0 := H0.out.cell (b := b6) (cs := #[.int .u64 v, .int .u64 o, .int .u64 r]) (t := 41) (by simp) 0 rfl
  have c_b6_1 := H0.out.cell (b := b6) (cs := #[.int .u64 v, .int .u64 o, .int .u64 r]) (t := 41) (by simp) 1 rfl
  have c_b6_2 := H0.out.cell (b := b6) (cs := #[.int .u64 v, .int .u64 o, .int .u64 r]) (t := 41) (by simp) 2 rfl
  have c_b5_0 := H0.out.cell (b := b5) (cs := #[.int .u64 x, .int .u64 y, .slice ao len cap]) (t := 44) (by simp) 0 rfl
  have c_b5_1 := H0.out.cell (b := b5) (cs := #[.int .u64 x, .int .u64 y, .slice ao len cap]) (t := 44) (by simp) 1 rfl
  have c_b5_2 := H0.out.cell (b := b5) (cs := #[.int .u64 x, .int .u64 y, .slice ao len cap]) (t := 44) (by simp) 2 rfl
  go_wp2_with fail
  refine (up17 _ (G.out.below H0.out.2)).mono ?_
  rintro e' w1 ⟨rfl, hbn⟩
  have H1 := Lib.hid (H0.out.next hbn)
  clear c_b6_0 c_b6_1 c_b6_2 c_b5_0 c_b5_1 c_b5_2
  clear hbn H0
  have c_b5_0 := H1.out.cell (b := b5) (cs := #[.int .u64 x, .int .u64 y, .slice ao len cap]) (t := 44) (by simp) 0 rfl
  have c_b5_1 := H1.out.cell (b := b5) (cs := #[.int .u64 x, .int .u64 y, .slice ao len cap]) (t := 44) (by simp) 1 rfl
  have c_b5_2 := H1.out.cell (b := b5) (cs := #[.int .u64 x, .int .u64 y, .slice ao len cap]) (t := 44) (by simp) 2 rfl
  go_wp2_with fail
  go_ret
  exact ⟨by simp, H1.out.2⟩
set_option maxRecDepth 8000 in
set_option maxHeartbeats 8000000 in
theorem walkNStaysB (w : World) (G : Hid (RowsAt w)) (k x y v o r e : Int) (ao : Option Addr) (len cap : Nat) (L : List Nat) (H : Hid (B8 len L)) (hl : ¬ 1000 < len) (S : Hid (SlI w.heap.size w ao cap L)) (a b c : Int) (E : Value) (hQ : E = .nilIface ∨ ∃ n : Int, E = errN n) (hI : ∀ ao cap (W : World), RowsAt W → SlI W.heap.size W ao cap L → Calls Tryd.prog 24 #[.int .u64 k, .agg #[.int .u64 x, .int .u64 y, .slice ao len cap]] W fun e' w' => e' = .returned (.tuple #[ntV a b c, E]) ∧ Below W.heap.size W w') (t px py : Int) (hA : ∀ W : World, Calls Tryd.prog 13 #[.int .u64 77] W fun e' w' => e' = .returned (.tuple #[adV t px py, .nilIface]) ∧ Below W.heap.size W w') (hZ : ∀ W : World, Calls Tryd.prog 19 #[ntV v o r, adV t px py, .int .u64 e] W fun e' w' => e' = .returned (.tuple #[.agg #[.int .u64 0, .int .u64 0, .slice none 0 0], errN 1]) ∧ Below W.heap.size W w') :
    Calls Tryd.prog 7 #[.int .u64 k, .agg #[.int .u64 x, .int .u64 y, .slice ao len cap], ntV v o r, .int .u64 e] w fun e w' => e = .returned (.bool true) ∧ Below w.heap.size w w' := by
  have hl1 : ¬ (1000 : Int) < (len : Int) := by omega
  have cI := Lib.hid hI
  have hq := Lib.hid hQ
  clear hI hQ
  have cA := Lib.hid hA
  have cZ := Lib.hid hZ
  have hx := errNil0
  have hy := nilNil0
  clear hA hZ
  go_enter Tryd.func7, Tryd.ntmps7
  go_upto_region 1 with fail
  have HB := Lib.hid (((HR.refl w).new #[.int .u64 x, .int .u64 y, .slice ao len cap] 44).new #[.int .u64 v, .int .u64 o, .int .u64 r] 41)
  simp only [World.size_alloc] at HB
  generalize (w.alloc (.cells #[.int .u64 x, .int .u64 y, .slice ao len cap] 44)).alloc (.cells #[.int .u64 v, .int .u64 o, .int .u64 r] 41) = w0 at HB ⊢
  obtain ⟨b6, hb6⟩ : ∃ z, w.heap.size + 1 = z := ⟨_, rfl⟩
  obtain ⟨b5, hb5⟩ : ∃ z, w.heap.size = z := ⟨_, rfl⟩
  have H0 : Hid (HR w w0 [(b6, #[.int .u64 v, .int .u64 o, .int .u64 r], 41), (b5, #[.int .u64 x, .int .u64 y, .slice ao len cap], 44)]) := Lib.hid (by rw [← hb6, ← hb5]; exact HB.out)
  rw [hb6, hb5]
  replace hb5 := Lib.hid hb5
  replace hb6 := Lib.hid hb6
  clear HB
  have c_b6_0 := H0.out.cell (b := b6) (cs := #[.int .u64 v, .int .u64 o, .int .u64 r]) (t := 41) (by simp) 0 rfl
  have c_b6_1 := H0.out.cell (b := b6) (cs := #[.int .u64 v, .int .u64 o, .int .u64 r]) (t := 41) (by simp) 1 rfl
  have c_b6_2 := H0.out.cell (b := b6) (cs := #[.int .u64 v, .int .u64 o, .int .u64 r]) (t := 41) (by simp) 2 rfl
  have c_b5_0 := H0.out.cell (b := b5) (cs := #[.int .u64 x, .int .u64 y, .slice ao len cap]) (t := 44) (by simp) 0 rfl
  have c_b5_1 := H0.out.cell (b := b5) (cs := #[.int .u64 x, .int .u64 y, .slice ao len cap]) (t := 44) (by simp) 1 rfl
  have c_b5_2 := H0.out.cell (b := b5) (cs := #[.int .u64 x, .int .u64 y, .slice ao len cap]) (t := 44) (by simp) 2 rfl
  go_wp2_with fail
  refine (up17 _ (G.out.below H0.out.2)).mono ?_
  rintro e' w1 ⟨rfl, hbn⟩
  have H1 := Lib.hid (H0.out.next hbn)
  clear c_b6_0 c_b6_1 c_b6_2 c_b5_0 c_b5_1 c_b5_2
  clear hbn H0
  have hS1 := S.out.next H1.out.2
  obtain ⟨g, cap2, w2, hap, hO2, hbw2⟩ := append_copy w1 ao len cap L H.out.len (by omega) (fun h => by have := hS1.no h; rw [H.out.len] at this; exact this) (fun h => by
    obtain ⟨b, o, e1, _, e3⟩ := hS1.bl (by rw [H.out.len]; exact h)
    exact ⟨b, o, e1, e3⟩)
  clear hS1
  have c_b5_0 := H1.out.cell (b := b5) (cs := #[.int .u64 x, .int .u64 y, .slice ao len cap]) (t := 44) (by simp) 0 rfl
  have c_b5_1 := H1.out.cell (b := b5) (cs := #[.int .u64 x, .int .u64 y, .slice ao len cap]) (t := 44) (by simp) 1 rfl
  have c_b5_2 := H1.out.cell (b := b5) (cs := #[.int .u64 x, .int .u64 y, .slice ao len cap]) (t := 44) (by simp) 2 rfl
  go_upto_region 4 with fail
  clear c_b5_0 c_b5_1 c_b5_2
  have H1a := Lib.hid (HR.alloc H1.out (.cells #[] 5))
  have c_b5_0 := H1a.out.cell (b := b5) (cs := #[.int .u64 x, .int .u64 y, .slice ao len cap]) (t := 44) (by simp) 0 rfl
  have c_b5_1 := H1a.out.cell (b := b5) (cs := #[.int .u64 x, .int .u64 y, .slice ao len cap]) (t := 44) (by simp) 1 rfl
  have c_b5_2 := H1a.out.cell (b := b5) (cs := #[.int .u64 x, .int .u64 y, .slice ao len cap]) (t := 44) (by simp) 2 rfl
  go_upto_region 5 with (at_builtin; refine wpList_appended rfl _ _ _ _ rfl _ _ _ rfl rfl hap ?_)
  clear c_b5_0 c_b5_1 c_b5_2
  have H2 := Lib.hid (H1.out.next hbw2)
  have O2 := Lib.hid hO2
  have cI2 := Lib.hid (cI.out (some ⟨g, 0, none⟩) cap2 w2 (G.out.below H2.out.2) (OwnB.sl hO2).2)
  clear hap hO2 hbw2 H1 H1a
  have c_b5_0 := H2.out.cell (b := b5) (cs := #[.int .u64 x, .int .u64 y, .slice ao len cap]) (t := 44) (by simp) 0 rfl
  have c_b5_1 := H2.out.cell (b := b5) (cs := #[.int .u64 x, .int .u64 y, .slice ao len cap]) (t := 44) (by simp) 1 rfl
  have c_b5_2 := H2.out.cell (b := b5) (cs := #[.int .u64 x, .int .u64 y, .slice ao len cap]) (t := 44) (by simp) 2 rfl
  go_wp2_with fail
  refine cI2.out.mono ?_
  rintro e' w3 ⟨rfl, hbn⟩
  have H3 := Lib.hid (H2.out.next hbn)
  have O3 := Lib.hid (O2.out.below hbn)
  clear c_b5_0 c_b5_1 c_b5_2
  clear hbn H2 O2 cI2
  go_upto_region 6 with fail
  have O4 := Lib.hid (O3.out.below (bAlloc (Below.refl _ w3) (.cells #[.int .u64 a, .int .u64 b, .int .u64 c] 41)))
  clear O3
  have hn := (H3.out).new #[.int .u64 a, .int .u64 b, .int .u64 c] 41
  generalize w3.alloc (.cells #[.int .u64 a, .int .u64 b, .int .u64 c] 41) = w4 at hn O4 ⊢
  obtain ⟨bm, hbm⟩ : ∃ z, w3.heap.size = z := ⟨_, rfl⟩
  rw [hbm] at hn ⊢
  have H4 : Hid (HR w w4 [(bm, #[.int .u64 a, .int .u64 b, .int .u64 c], 41), (b6, #[.int .u64 v, .int .u64 o, .int .u64 r], 41), (b5, #[.int .u64 x, .int .u64 y, .slice ao len cap], 44)]) := Lib.hid hn
  replace hbm := Lib.hid hbm
  clear hn H3
  have z1 := own_conv O4.out
  have z2 := (S.out.next H4.out.2).conv H.out.len
  have c_b5_0 := H4.out.cell (b := b5) (cs := #[.int .u64 x, .int .u64 y, .slice ao len cap]) (t := 44) (by simp) 0 rfl
  have c_b5_1 := H4.out.cell (b := b5) (cs := #[.int .u64 x, .int .u64 y, .slice ao len cap]) (t := 44) (by simp) 1 rfl
  have c_b5_2 := H4.out.cell (b := b5) (cs := #[.int .u64 x, .int .u64 y, .slice ao len cap]) (t := 44) (by simp) 2 rfl
  go_upto_region 8 with fail
  clear z1 z2 O4
  clear c_b5_0 c_b5_1 c_b5_2
  go_wp2_with fail
  refine (cA.out _).mono ?_
  rintro e' w5 ⟨rfl, hbn⟩
  have H5 := Lib.hid (H4.out.next hbn)
  clear hbn H4
  go_upto_region 9 with fail
  have hn := (H5.out).new #[.int .u64 t, .int .u64 px, .int .u64 py] 31
  generalize w5.alloc (.cells #[.int .u64 t, .int .u64 px, .int .u64 py] 31) = w6 at hn ⊢
  obtain ⟨ba, hba⟩ : ∃ z, w5.heap.size = z := ⟨_, rfl⟩
  rw [hba] at hn ⊢
  have H6 : Hid (HR w w6 [(ba, #[.int .u64 t, .int .u64 px, .int .u64 py], 31), (bm, #[.int .u64 a, .int .u64 b, .int .u64 c], 41), (b6, #[.int .u64 v, .int .u64 o, .int .u64 r], 41), (b5, #[.int .u64 x, .int .u64 y, .slice ao len cap], 44)]) := Lib.hid hn
  replace hba := Lib.hid hba
  clear hn H5
  have c_ba_0 := H6.out.cell (b := ba) (cs := #[.int .u64 t, .int .u64 px, .int .u64 py]) (t := 31) (by simp) 0 rfl
  have c_ba_1 := H6.out.cell (b := ba) (cs := #[.int .u64 t, .int .u64 px, .int .u64 py]) (t := 31) (by simp) 1 rfl
  have c_ba_2 := H6.out.cell (b := ba) (cs := #[.int .u64 t, .int .u64 px, .int .u64 py]) (t := 31) (by simp) 2 rfl
  have c_b6_0 := H6.out.cell (b := b6) (cs := #[.int .u64 v, .int .u64 o, .int .u64 r]) (t := 41) (by simp) 0 rfl
  have c_b6_1 := H6.out.cell (b := b6) (cs := #[.int .u64 v, .int .u64 o, .int .u64 r]) (t := 41) (by simp) 1 rfl
  have c_b6_2 := H6.out.cell (b := b6) (cs := #[.int .u64 v, .int .u64 o, .int .u64 r]) (t := 41) (by simp) 2 rfl
  go_wp2_with fail
  refine (cZ.out _).mono ?_
  rintro e' w7 ⟨rfl, hbn⟩
  have H7 := Lib.hid (H6.out.next hbn)
  clear c_ba_0 c_ba_1 c_ba_2 c_b6_0 c_b6_1 c_b6_2
  clear hbn H6
  go_upto_region 10 with fail
  have hn := (H7.out).new #[.int .u64 0, .int .u64 0, .slice none 0 0] 44
  generalize w7.alloc (.cells #[.int .u64 0, .int .u64 0, .slice none 0 0] 44) = w8 at hn ⊢
  obtain ⟨bs, hbs⟩ : ∃ z, w7.heap.size = z := ⟨_, rfl⟩
  rw [hbs] at hn ⊢
  have H8 : Hid (HR w w8 [(bs, #[.int .u64 0, .int .u64 0, .slice none 0 0], 44), (ba, #[.int .u64 t, .int .u64 px, .int .u64 py], 31), (bm, #[.int .u64 a, .int .u64 b, .int .u64 c], 41), (b6, #[.int .u64 v, .int .u64 o, .int .u64 r], 41), (b5, #[.int .u64 x, .int .u64 y, .slice ao len cap], 44)]) := Lib.hid hn
  replace hbs := Lib.hid hbs
  clear hn H7
  have c_bs_0 := H8.out.cell (b := bs) (cs := #[.int .u64 0, .int .u64 0, .slice none 0 0]) (t := 44) (by simp) 0 rfl
  have c_bs_1 := H8.out.cell (b := bs) (cs := #[.int .u64 0, .int .u64 0, .slice none 0 0]) (t := 44) (by simp) 1 rfl
  have c_bs_2 := H8.out.cell (b := bs) (cs := #[.int .u64 0, .int .u64 0, .slice none 0 0]) (t := 44) (by simp) 2 rfl
  have zc := own_conv (OwnB.nil w8 0)
  go_upto_region 12 with fail
  clear zc
  go_loopw [18] (fun q wr => q = .int .i64 0 ∧ Hid (HR w wr [(bs, #[.int .u64 0, .int .u64 0, .slice none 0 0], 44), (ba, #[.int .u64 t, .int .u64 px, .int .u64 py], 31), (bm, #[.int .u64 a, .int .u64 b, .int .u64 c], 41), (b6, #[.int .u64 v, .int .u64 o, .int .u64 r], 41), (b5, #[.int .u64 x, .int .u64 y, .slice ao len cap], 44)])) (fun _ _ => 0)
  case atStart => exact ⟨rfl, H8⟩
  case round =>
    clear c_bs_0 c_bs_1 c_bs_2
    clear H8
    rename World => wr
    obtain ⟨rfl, H8⟩ := hrel
    have c_bs_0 := H8.out.cell (b := bs) (cs := #[.int .u64 0, .int .u64 0, .slice none 0 0]) (t := 44) (by simp) 0 rfl
    have c_bs_1 := H8.out.cell (b := bs) (cs := #[.int .u64 0, .int .u64 0, .slice none 0 0]) (t := 44) (by simp) 1 rfl
    have c_bs_2 := H8.out.cell (b := bs) (cs := #[.int .u64 0, .int .u64 0, .slice none 0 0]) (t := 44) (by simp) 2 rfl
    have c_ba_0 := H8.out.cell (b := ba) (cs := #[.int .u64 t, .int .u64 px, .int .u64 py]) (t := 31) (by simp) 0 rfl
    have c_ba_1 := H8.out.cell (b := ba) (cs := #[.int .u64 t, .int .u64 px, .int .u64 py]) (t := 31) (by simp) 1 rfl
    have c_ba_2 := H8.out.cell (b := ba) (cs := #[.int .u64 t, .int .u64 px, .int .u64 py]) (t := 31) (by simp) 2 rfl
    have c_b6_0 := H8.out.cell (b := b6) (cs := #[.int .u64 v, .int .u64 o, .int .u64 r]) (t := 41) (by simp) 0 rfl
    have c_b6_1 := H8.out.cell (b := b6) (cs := #[.int .u64 v, .int .u64 o, .int .u64 r]) (t := 41) (by simp) 1 rfl
    have c_b6_2 := H8.out.cell (b := b6) (cs := #[.int .u64 v, .int .u64 o, .int .u64 r]) (t := 41) (by simp) 2 rfl
    go_wp2_with fail
    refine (cZ.out _).mono ?_
    rintro e' w9 ⟨rfl, hbn⟩
    have H9 := Lib.hid (H8.out.next hbn)
    clear c_bs_0 c_bs_1 c_bs_2 c_ba_0 c_ba_1 c_ba_2 c_b6_0 c_b6_1 c_b6_2
    clear hbn H8
    go_upto_region 16 with fail
    have hn := (H9.out).new #[.int .u64 0, .int .u64 0, .slice none 0 0] 44
    generalize w9.alloc (.cells #[.int .u64 0, .int .u64 0, .slice none 0 0] 44) = w10 at hn ⊢
    obtain ⟨bv, hbv⟩ : ∃ z, w9.heap.size = z := ⟨_, rfl⟩
    rw [hbv] at hn ⊢
    have H10 : Hid (HR w w10 [(bv, #[.int .u64 0, .int .u64 0, .slice none 0 0], 44), (bs, #[.int .u64 0, .int .u64 0, .slice none 0 0], 44), (ba, #[.int .u64 t, .int .u64 px, .int .u64 py], 31), (bm, #[.int .u64 a, .int .u64 b, .int .u64 c], 41), (b6, #[.int .u64 v, .int .u64 o, .int .u64 r], 41), (b5, #[.int .u64 x, .int .u64 y, .slice ao len cap], 44)]) := Lib.hid hn
    replace hbv := Lib.hid hbv
    clear hn H9
    have cI3 := Lib.hid (cI.out ao cap w10 (G.out.below H10.out.2) (S.out.next H10.out.2))
    have c_b5_0 := H10.out.cell (b := b5) (cs := #[.int .u64 x, .int .u64 y, .slice ao len cap]) (t := 44) (by simp) 0 rfl
    have c_b5_1 := H10.out.cell (b := b5) (cs := #[.int .u64 x, .int .u64 y, .slice ao len cap]) (t := 44) (by simp) 1 rfl
    have c_b5_2 := H10.out.cell (b := b5) (cs := #[.int .u64 x, .int .u64 y, .slice ao len cap]) (t := 44) (by simp) 2 rfl
    go_wp2_with fail
    refine cI3.out.mono ?_
    rintro e' w11 ⟨rfl, hbn⟩
    have H11 := Lib.hid (H10.out.next hbn)
    clear c_b5_0 c_b5_1 c_b5_2
    clear hbn H10 cI3
    go_upto_region 17 with fail
    have hn := (H11.out).new #[.int .u64 a, .int .u64 b, .int .u64 c] 41
    generalize w11.alloc (.cells #[.int .u64 a, .int .u64 b, .int .u64 c] 41) = w12 at hn ⊢
    obtain ⟨bn, hbn⟩ : ∃ z, w11.heap.size = z := ⟨_, rfl⟩
    rw [hbn] at hn ⊢
    have H12 : Hid (HR w w12 [(bn, #[.int .u64 a, .int .u64 b, .int .u64 c], 41), (bv, #[.int .u64 0, .int .u64 0, .slice none 0 0], 44), (bs, #[.int .u64 0, .int .u64 0, .slice none 0 0], 44), (ba, #[.int .u64 t, .int .u64 px, .int .u64 py], 31), (bm, #[.int .u64 a, .int .u64 b, .int .u64 c], 41), (b6, #[.int .u64 v, .int .u64 o, .int .u64 r], 41), (b5, #[.int .u64 x, .int .u64 y, .slice ao len cap], 44)]) := Lib.hid hn
    replace hbn := Lib.hid hbn
    clear hn H11
    rcases hq.out with rfl | ⟨n, rfl⟩
    · refine wp_region_noPanic ?_
      refine wp_region_held_drew (S := fun wq => wq.cell? ⟨bn, 0, none⟩ = some (.int .u64 a) ∧ wq.cell? ⟨bn, 1, none⟩ = some (.int .u64 b) ∧ wq.cell? ⟨bn, 2, none⟩ = some (.int .u64 c) ∧ wq.cell? ⟨bv, 0, none⟩ = some (.int .u64 0) ∧ wq.cell? ⟨bv, 1, none⟩ = some (.int .u64 0) ∧ wq.cell? ⟨bv, 2, none⟩ = some (.slice none 0 0) ∧ wq.cell? ⟨bm, 0, none⟩ = some (.int .u64 a) ∧ wq.cell? ⟨bm, 1, none⟩ = some (.int .u64 b) ∧ wq.cell? ⟨bm, 2, none⟩ = some (.int .u64 c) ∧ (convert 42 9 (.slice none 0 0)).run Tryd.prog wq = .ok (.string (strB [])) wq ∧ HR w wq [(bn, #[.int .u64 a, .int .u64 b, .int .u64 c], 41), (bv, #[.int .u64 0, .int .u64 0, .slice none 0 0], 44), (bs, #[.int .u64 0, .int .u64 0, .slice none 0 0], 44), (ba, #[.int .u64 t, .int .u64 px, .int .u64 py], 31), (bm, #[.int .u64 a, .int .u64 b, .int .u64 c], 41), (b6, #[.int .u64 v, .int .u64 o, .int .u64 r], 41), (b5, #[.int .u64 x, .int .u64 y, .slice ao len cap], 44)]) (by kernel_rfl) ?_ (fun hHeld => ?_)
      · have hq0 := HR.drew H12.out
        exact ⟨HR.cell hq0 (b := bn) (cs := #[.int .u64 a, .int .u64 b, .int .u64 c]) (t := 41) (by simp) 0 rfl, HR.cell hq0 (b := bn) (cs := #[.int .u64 a, .int .u64 b, .int .u64 c]) (t := 41) (by simp) 1 rfl, HR.cell hq0 (b := bn) (cs := #[.int .u64 a, .int .u64 b, .int .u64 c]) (t := 41) (by simp) 2 rfl, HR.cell hq0 (b := bv) (cs := #[.int .u64 0, .int .u64 0, .slice none 0 0]) (t := 44) (by simp) 0 rfl, HR.cell hq0 (b := bv) (cs := #[.int .u64 0, .int .u64 0, .slice none 0 0]) (t := 44) (by simp) 1 rfl, HR.cell hq0 (b := bv) (cs := #[.int .u64 0, .int .u64 0, .slice none 0 0]) (t := 44) (by simp) 2 rfl, HR.cell hq0 (b := bm) (cs := #[.int .u64 a, .int .u64 b, .int .u64 c]) (t := 41) (by simp) 0 rfl, HR.cell hq0 (b := bm) (cs := #[.int .u64 a, .int .u64 b, .int .u64 c]) (t := 41) (by simp) 1 rfl, HR.cell hq0 (b := bm) (cs := #[.int .u64 a, .int .u64 b, .int .u64 c]) (t := 41) (by simp) 2 rfl, (own_conv (OwnB.nil _ 0)), hq0⟩
      refine takeH 0 (fun _ _ _ _ _ h => h) (by kernel_rfl) hHeld rfl (by kernel_rfl) (by rfl) (v := ?_) ?_ ?_
      rotate_left
      ((intro wz hz; (try dsimp only at hz); go_simp) <;> with_reducible rfl)
      try simp only [Act.put, List.setIfInBounds_toArray, List.set_cons_zero, List.set_cons_succ]
      refine takeH 1 (fun _ _ _ _ _ h => h) (by kernel_rfl) hHeld rfl (by kernel_rfl) (by rfl) (v := ?_) ?_ ?_
      rotate_left
      ((intro wz hz; (try dsimp only at hz); go_simp) <;> with_reducible rfl)
      try simp only [Act.put, List.setIfInBounds_toArray, List.set_cons_zero, List.set_cons_succ]
      refine takeH 2 (fun _ _ _ _ _ h => h) (by kernel_rfl) hHeld rfl (by kernel_rfl) (by rfl) (v := ?_) ?_ ?_
      rotate_left
      ((intro wz hz; (try dsimp only at hz); go_simp) <;> with_reducible rfl)
      try simp only [Act.put, List.setIfInBounds_toArray, List.set_cons_zero, List.set_cons_succ]
      refine takeH 3 (fun _ _ _ _ _ h => h) (by kernel_rfl) hHeld rfl (by kernel_rfl) (by rfl) (v := ?_) ?_ ?_
      rotate_left
      ((intro wz hz; (try dsimp only at hz); go_simp) <;> with_reducible rfl)
      try simp only [Act.put, List.setIfInBounds_toArray, List.set_cons_zero, List.set_cons_succ]
      refine takeH 4 (fun _ _ _ _ _ h => h) (by kernel_rfl) hHeld rfl (by kernel_rfl) (by rfl) (v := ?_) ?_ ?_
      rotate_left
      ((intro wz hz; (try dsimp only at hz); go_simp) <;> with_reducible rfl)
      try simp only [Act.put, List.setIfInBounds_toArray, List.set_cons_zero, List.set_cons_succ]
      refine takeH 5 (fun _ _ _ _ _ h => h) (by kernel_rfl) hHeld rfl (by kernel_rfl) (by rfl) (v := ?_) ?_ ?_
      rotate_left
      ((intro wz hz; (try dsimp only at hz); go_simp) <;> with_reducible rfl)
      try simp only [Act.put, List.setIfInBounds_toArray, List.set_cons_zero, List.set_cons_succ]
      refine takeH 6 (fun _ _ _ _ _ h => h) (by kernel_rfl) hHeld rfl (by kernel_rfl) (by rfl) (v := ?_) ?_ ?_
      rotate_left
      ((intro wz hz; (try dsimp only at hz); go_simp) <;> with_reducible rfl)
      try simp only [Act.put, List.setIfInBounds_toArray, List.set_cons_zero, List.set_cons_succ]
      refine takeH 7 (fun _ _ _ _ _ h => h) (by kernel_rfl) hHeld rfl (by kernel_rfl) (by rfl) (v := ?_) ?_ ?_
      rotate_left
      ((intro wz hz; (try dsimp only at hz); go_simp) <;> with_reducible rfl)
      try simp only [Act.put, List.setIfInBounds_toArray, List.set_cons_zero, List.set_cons_succ]
      refine takeH 8 (fun _ _ _ _ _ h => h) (by kernel_rfl) hHeld rfl (by kernel_rfl) (by rfl) (v := ?_) ?_ ?_
      rotate_left
      ((intro wz hz; (try dsimp only at hz); go_simp) <;> with_reducible rfl)
      try simp only [Act.put, List.setIfInBounds_toArray, List.set_cons_zero, List.set_cons_succ]
      refine takeH 9 (fun _ _ _ _ _ h => h) (by kernel_rfl) hHeld rfl (by kernel_rfl) (by rfl) (v := ?_) ?_ ?_
      rotate_left
      ((intro wz hz; (try dsimp only at hz); go_simp) <;> with_reducible rfl)
      try simp only [Act.put, List.setIfInBounds_toArray, List.set_cons_zero, List.set_cons_succ]
      refine takeH 10 (fun _ _ _ _ _ h => h) (by kernel_rfl) hHeld rfl (by kernel_rfl) (by rfl) (v := ?_) ?_ ?_
      rotate_left
      ((intro wz hz; (try dsimp only at hz); go_simp) <;> with_reducible rfl)
      try simp only [Act.put, List.setIfInBounds_toArray, List.set_cons_zero, List.set_cons_succ]
      refine takeH 11 (fun _ _ _ _ _ h => h) (by kernel_rfl) hHeld rfl (by kernel_rfl) (by rfl) (v := ?_) ?_ ?_
      rotate_left
      ((intro wz hz; (try dsimp only at hz); go_simp) <;> with_reducible rfl)
      try simp only [Act.put, List.setIfInBounds_toArray, List.set_cons_zero, List.set_cons_succ]
      refine takeH 12 (fun _ _ _ _ _ h => h) (by kernel_rfl) hHeld rfl (by kernel_rfl) (by rfl) (v := ?_) ?_ ?_
      rotate_left
      ((intro wz hz; (try dsimp only at hz); go_simp) <;> with_reducible rfl)
      try simp only [Act.put, List.setIfInBounds_toArray, List.set_cons_zero, List.set_cons_succ]
      refine takeH 13 (fun _ _ _ _ _ h => h) (by kernel_rfl) hHeld rfl (by kernel_rfl) (by rfl) (v := ?_) ?_ ?_
      rotate_left
      ((intro wz hz; (try dsimp only at hz); go_simp) <;> with_reducible rfl)
      try simp only [Act.put, List.setIfInBounds_toArray, List.set_cons_zero, List.set_cons_succ]
      refine takeH 14 (fun _ _ _ _ _ h => h) (by kernel_rfl) hHeld rfl (by kernel_rfl) (by rfl) (v := ?_) ?_ ?_
      rotate_left
      ((intro wz hz; (try dsimp only at hz); go_simp) <;> with_reducible rfl)
      try simp only [Act.put, List.setIfInBounds_toArray, List.set_cons_zero, List.set_cons_succ]
      refine takeH 15 (fun _ _ _ _ _ h => h) (by kernel_rfl) hHeld rfl (by kernel_rfl) (by rfl) (v := ?_) ?_ ?_
      rotate_left
      ((intro wz hz; (try dsimp only at hz); go_simp) <;> with_reducible rfl)
      try simp only [Act.put, List.setIfInBounds_toArray, List.set_cons_zero, List.set_cons_succ]
      refine takeH 16 (fun _ _ _ _ _ h => h) (by kernel_rfl) hHeld rfl (by kernel_rfl) (by rfl) (v := ?_) ?_ ?_
      rotate_left
      ((intro wz hz; (try dsimp only at hz); go_simp) <;> with_reducible rfl)
      try simp only [Act.put, List.setIfInBounds_toArray, List.set_cons_zero, List.set_cons_succ]
      refine takeH 17 (fun _ _ _ _ _ h => h) (by kernel_rfl) hHeld rfl (by kernel_rfl) (by rfl) (v := ?_) ?_ ?_
      rotate_left
      ((intro wz hz; (try dsimp only at hz); go_simp) <;> with_reducible rfl)
      try simp only [Act.put, List.setIfInBounds_toArray, List.set_cons_zero, List.set_cons_succ]
      refine takeH 18 (fun _ _ _ _ _ h => h) (by kernel_rfl) hHeld rfl (by kernel_rfl) (by rfl) (v := ?_) ?_ ?_
      rotate_left
      ((intro wz hz; (try dsimp only at hz); go_simp) <;> with_reducible rfl)
      try simp only [Act.put, List.setIfInBounds_toArray, List.set_cons_zero, List.set_cons_succ]
      refine takeH 19 (fun _ _ _ _ _ h => h) (by kernel_rfl) hHeld rfl (by kernel_rfl) (by rfl) (v := ?_) ?_ ?_
      rotate_left
      ((intro wz hz; (try dsimp only at hz); go_simp) <;> with_reducible rfl)
      try simp only [Act.put, List.setIfInBounds_toArray, List.set_cons_zero, List.set_cons_succ]
      refine takeH 20 (fun _ _ _ _ _ h => h) (by kernel_rfl) hHeld rfl (by kernel_rfl) (by rfl) (v := ?_) ?_ ?_
      rotate_left
      ((intro wz hz; (try dsimp only at hz); go_simp) <;> with_reducible rfl)
      try simp only [Act.put, List.setIfInBounds_toArray, List.set_cons_zero, List.set_cons_succ]
      refine takeH 21 (fun _ _ _ _ _ h => h) (by kernel_rfl) hHeld rfl (by kernel_rfl) (by rfl) (v := ?_) ?_ ?_
      rotate_left
      ((intro wz hz; (try dsimp only at hz); go_simp) <;> with_reducible rfl)
      try simp only [Act.put, List.setIfInBounds_toArray, List.set_cons_zero, List.set_cons_succ]
      refine takeH 22 (fun _ _ _ _ _ h => h) (by kernel_rfl) hHeld rfl (by kernel_rfl) (by rfl) (v := ?_) ?_ ?_
      rotate_left
      ((intro wz hz; (try dsimp only at hz); go_simp) <;> with_reducible rfl)
      try simp only [Act.put, List.setIfInBounds_toArray, List.set_cons_zero, List.set_cons_succ]
      refine takeH 23 (fun _ _ _ _ _ h => h) (by kernel_rfl) hHeld rfl (by kernel_rfl) (by rfl) (v := ?_) ?_ ?_
      rotate_left
      ((intro wz hz; (try dsimp only at hz); go_simp) <;> with_reducible rfl)
      try simp only [Act.put, List.setIfInBounds_toArray, List.set_cons_zero, List.set_cons_succ]
      refine takeH 24 (fun _ _ _ _ _ h => h) (by kernel_rfl) hHeld rfl (by kernel_rfl) (by rfl) (v := ?_) ?_ ?_
      rotate_left
      ((intro wz hz; (try dsimp only at hz); go_simp) <;> with_reducible rfl)
      try simp only [Act.put, List.setIfInBounds_toArray, List.set_cons_zero, List.set_cons_succ]
      refine takeH 25 (fun _ _ _ _ _ h => h) (by kernel_rfl) hHeld rfl (by kernel_rfl) (by rfl) (v := ?_) ?_ ?_
      rotate_left
      ((intro wz hz; (try dsimp only at hz); go_simp) <;> with_reducible rfl)
      try simp only [Act.put, List.setIfInBounds_toArray, List.set_cons_zero, List.set_cons_succ]
      refine takeH 26 (fun _ _ _ _ _ h => h) (by kernel_rfl) hHeld rfl (by kernel_rfl) (by rfl) (v := ?_) ?_ ?_
      rotate_left
      ((intro wz hz; (try dsimp only at hz); go_simp) <;> with_reducible rfl)
      try simp only [Act.put, List.setIfInBounds_toArray, List.set_cons_zero, List.set_cons_succ]
      refine takeH 27 (fun _ _ _ _ _ h => h) (by kernel_rfl) hHeld rfl (by kernel_rfl) (by rfl) (v := ?_) ?_ ?_
      rotate_left
      ((intro wz hz; (try dsimp only at hz); go_simp) <;> with_reducible rfl)
      try simp only [Act.put, List.setIfInBounds_toArray, List.set_cons_zero, List.set_cons_succ]
      refine wpAnyH_done (by kernel_rfl) (NoPanic.normal ?_) _
      have H13 := Lib.hid hHeld.2.2.2.2.2.2.2.2.2.2
      clear hHeld
      go_wp2_with fail
      go_ret
      exact ⟨by simp, H13.out.2⟩
    · refine wp_region_noPanic ?_
      refine wp_region_held_drew (S := fun wq => wq.cell? ⟨bn, 0, none⟩ = some (.int .u64 a) ∧ wq.cell? ⟨bn, 1, none⟩ = some (.int .u64 b) ∧ wq.cell? ⟨bn, 2, none⟩ = some (.int .u64 c) ∧ wq.cell? ⟨bv, 0, none⟩ = some (.int .u64 0) ∧ wq.cell? ⟨bv, 1, none⟩ = some (.int .u64 0) ∧ wq.cell? ⟨bv, 2, none⟩ = some (.slice none 0 0) ∧ wq.cell? ⟨bm, 0, none⟩ = some (.int .u64 a) ∧ wq.cell? ⟨bm, 1, none⟩ = some (.int .u64 b) ∧ wq.cell? ⟨bm, 2, none⟩ = some (.int .u64 c) ∧ (convert 42 9 (.slice none 0 0)).run Tryd.prog wq = .ok (.string (strB [])) wq ∧ HR w wq [(bn, #[.int .u64 a, .int .u64 b, .int .u64 c], 41), (bv, #[.int .u64 0, .int .u64 0, .slice none 0 0], 44), (bs, #[.int .u64 0, .int .u64 0, .slice none 0 0], 44), (ba, #[.int .u64 t, .int .u64 px, .int .u64 py], 31), (bm, #[.int .u64 a, .int .u64 b, .int .u64 c], 41), (b6, #[.int .u64 v, .int .u64 o, .int .u64 r], 41), (b5, #[.int .u64 x, .int .u64 y, .slice ao len cap], 44)]) (by kernel_rfl) ?_ (fun hHeld => ?_)
      · have hq0 := HR.drew H12.out
        exact ⟨HR.cell hq0 (b := bn) (cs := #[.int .u64 a, .int .u64 b, .int .u64 c]) (t := 41) (by simp) 0 rfl, HR.cell hq0 (b := bn) (cs := #[.int .u64 a, .int .u64 b, .int .u64 c]) (t := 41) (by simp) 1 rfl, HR.cell hq0 (b := bn) (cs := #[.int .u64 a, .int .u64 b, .int .u64 c]) (t := 41) (by simp) 2 rfl, HR.cell hq0 (b := bv) (cs := #[.int .u64 0, .int .u64 0, .slice none 0 0]) (t := 44) (by simp) 0 rfl, HR.cell hq0 (b := bv) (cs := #[.int .u64 0, .int .u64 0, .slice none 0 0]) (t := 44) (by simp) 1 rfl, HR.cell hq0 (b := bv) (cs := #[.int .u64 0, .int .u64 0, .slice none 0 0]) (t := 44) (by simp) 2 rfl, HR.cell hq0 (b := bm) (cs := #[.int .u64 a, .int .u64 b, .int .u64 c]) (t := 41) (by simp) 0 rfl, HR.cell hq0 (b := bm) (cs := #[.int .u64 a, .int .u64 b, .int .u64 c]) (t := 41) (by simp) 1 rfl, HR.cell hq0 (b := bm) (cs := #[.int .u64 a, .int .u64 b, .int .u64 c]) (t := 41) (by simp) 2 rfl, (own_conv (OwnB.nil _ 0)), hq0⟩
      refine takeH 0 (fun _ _ _ _ _ h => h) (by kernel_rfl) hHeld rfl (by kernel_rfl) (by rfl) (v := ?_) ?_ ?_
      rotate_left
      ((intro wz hz; (try dsimp only at hz); go_simp) <;> with_reducible rfl)
      try simp only [Act.put, List.setIfInBounds_toArray, List.set_cons_zero, List.set_cons_succ]
      refine takeH 1 (fun _ _ _ _ _ h => h) (by kernel_rfl) hHeld rfl (by kernel_rfl) (by rfl) (v := ?_) ?_ ?_
      rotate_left
      ((intro wz hz; (try dsimp only at hz); go_simp) <;> with_reducible rfl)
      try simp only [Act.put, List.setIfInBounds_toArray, List.set_cons_zero, List.set_cons_succ]
      refine takeH 2 (fun _ _ _ _ _ h => h) (by kernel_rfl) hHeld rfl (by kernel_rfl) (by rfl) (v := ?_) ?_ ?_
      rotate_left
      ((intro wz hz; (try dsimp only at hz); go_simp) <;> with_reducible rfl)
      try simp only [Act.put, List.setIfInBounds_toArray, List.set_cons_zero, List.set_cons_succ]
      refine takeH 3 (fun _ _ _ _ _ h => h) (by kernel_rfl) hHeld rfl (by kernel_rfl) (by rfl) (v := ?_) ?_ ?_
      rotate_left
      ((intro wz hz; (try dsimp only at hz); go_simp) <;> with_reducible rfl)
      try simp only [Act.put, List.setIfInBounds_toArray, List.set_cons_zero, List.set_cons_succ]
      refine takeH 4 (fun _ _ _ _ _ h => h) (by kernel_rfl) hHeld rfl (by kernel_rfl) (by rfl) (v := ?_) ?_ ?_
      rotate_left
      ((intro wz hz; (try dsimp only at hz); go_simp) <;> with_reducible rfl)
      try simp only [Act.put, List.setIfInBounds_toArray, List.set_cons_zero, List.set_cons_succ]
      refine takeH 5 (fun _ _ _ _ _ h => h) (by kernel_rfl) hHeld rfl (by kernel_rfl) (by rfl) (v := ?_) ?_ ?_
      rotate_left
      ((intro wz hz; (try dsimp only at hz); go_simp) <;> with_reducible rfl)
      try simp only [Act.put, List.setIfInBounds_toArray, List.set_cons_zero, List.set_cons_succ]
      refine takeH 6 (fun _ _ _ _ _ h => h) (by kernel_rfl) hHeld rfl (by kernel_rfl) (by rfl) (v := ?_) ?_ ?_
      rotate_left
      ((intro wz hz; (try dsimp only at hz); go_simp) <;> with_reducible rfl)
      try simp only [Act.put, List.setIfInBounds_toArray, List.set_cons_zero, List.set_cons_succ]
      refine takeH 7 (fun _ _ _ _ _ h => h) (by kernel_rfl) hHeld rfl (by kernel_rfl) (by rfl) (v := ?_) ?_ ?_
      rotate_left
      ((intro wz hz; (try dsimp only at hz); go_simp) <;> with_reducible rfl)
      try simp only [Act.put, List.setIfInBounds_toArray, List.set_cons_zero, List.set_cons_succ]
      refine takeH 8 (fun _ _ _ _ _ h => h) (by kernel_rfl) hHeld rfl (by kernel_rfl) (by rfl) (v := ?_) ?_ ?_
      rotate_left
      ((intro wz hz; (try dsimp only at hz); go_simp) <;> with_reducible rfl)
      try simp only [Act.put, List.setIfInBounds_toArray, List.set_cons_zero, List.set_cons_succ]
      refine takeH 9 (fun _ _ _ _ _ h => h) (by kernel_rfl) hHeld rfl (by kernel_rfl) (by rfl) (v := ?_) ?_ ?_
      rotate_left
      ((intro wz hz; (try dsimp only at hz); go_simp) <;> with_reducible rfl)
      try simp only [Act.put, List.setIfInBounds_toArray, List.set_cons_zero, List.set_cons_succ]
      refine takeH 10 (fun _ _ _ _ _ h => h) (by kernel_rfl) hHeld rfl (by kernel_rfl) (by rfl) (v := ?_) ?_ ?_
      rotate_left
      ((intro wz hz; (try dsimp only at hz); go_simp) <;> with_reducible rfl)
      try simp only [Act.put, List.setIfInBounds_toArray, List.set_cons_zero, List.set_cons_succ]
      refine takeH 11 (fun _ _ _ _ _ h => h) (by kernel_rfl) hHeld rfl (by kernel_rfl) (by rfl) (v := ?_) ?_ ?_
      rotate_left
      ((intro wz hz; (try dsimp only at hz); go_simp) <;> with_reducible rfl)
      try simp only [Act.put, List.setIfInBounds_toArray, List.set_cons_zero, List.set_cons_succ]
      refine takeH 12 (fun _ _ _ _ _ h => h) (by kernel_rfl) hHeld rfl (by kernel_rfl) (by rfl) (v := ?_) ?_ ?_
      rotate_left
      ((intro wz hz; (try dsimp only at hz); go_simp) <;> with_reducible rfl)
      try simp only [Act.put, List.setIfInBounds_toArray, List.set_cons_zero, List.set_cons_succ]
      refine takeH 13 (fun _ _ _ _ _ h => h) (by kernel_rfl) hHeld rfl (by kernel_rfl) (by rfl) (v := ?_) ?_ ?_
      rotate_left
      ((intro wz hz; (try dsimp only at hz); go_simp) <;> with_reducible rfl)
      try simp only [Act.put, List.setIfInBounds_toArray, List.set_cons_zero, List.set_cons_succ]
      refine takeH 14 (fun _ _ _ _ _ h => h) (by kernel_rfl) hHeld rfl (by kernel_rfl) (by rfl) (v := ?_) ?_ ?_
      rotate_left
      ((intro wz hz; (try dsimp only at hz); go_simp) <;> with_reducible rfl)
      try simp only [Act.put, List.setIfInBounds_toArray, List.set_cons_zero, List.set_cons_succ]
      refine takeH 15 (fun _ _ _ _ _ h => h) (by kernel_rfl) hHeld rfl (by kernel_rfl) (by rfl) (v := ?_) ?_ ?_
      rotate_left
      ((intro wz hz; (try dsimp only at hz); go_simp) <;> with_reducible rfl)
      try simp only [Act.put, List.setIfInBounds_toArray, List.set_cons_zero, List.set_cons_succ]
      refine takeH 16 (fun _ _ _ _ _ h => h) (by kernel_rfl) hHeld rfl (by kernel_rfl) (by rfl) (v := ?_) ?_ ?_
      rotate_left
      ((intro wz hz; (try dsimp only at hz); go_simp) <;> with_reducible rfl)
      try simp only [Act.put, List.setIfInBounds_toArray, List.set_cons_zero, List.set_cons_succ]
      refine takeH 17 (fun _ _ _ _ _ h => h) (by kernel_rfl) hHeld rfl (by kernel_rfl) (by rfl) (v := ?_) ?_ ?_
      rotate_left
      ((intro wz hz; (try dsimp only at hz); go_simp) <;> with_reducible rfl)
      try simp only [Act.put, List.setIfInBounds_toArray, List.set_cons_zero, List.set_cons_succ]
      refine takeH 18 (fun _ _ _ _ _ h => h) (by kernel_rfl) hHeld rfl (by kernel_rfl) (by rfl) (v := ?_) ?_ ?_
      rotate_left
      ((intro wz hz; (try dsimp only at hz); go_simp) <;> with_reducible rfl)
      try simp only [Act.put, List.setIfInBounds_toArray, List.set_cons_zero, List.set_cons_succ]
      refine takeH 19 (fun _ _ _ _ _ h => h) (by kernel_rfl) hHeld rfl (by kernel_rfl) (by rfl) (v := ?_) ?_ ?_
      rotate_left
      ((intro wz hz; (try dsimp only at hz); go_simp) <;> with_reducible rfl)
      try simp only [Act.put, List.setIfInBounds_toArray, List.set_cons_zero, List.set_cons_succ]
      refine takeH 20 (fun _ _ _ _ _ h => h) (by kernel_rfl) hHeld rfl (by kernel_rfl) (by rfl) (v := ?_) ?_ ?_
      rotate_left
      ((intro wz hz; (try dsimp only at hz); go_simp) <;> with_reducible rfl)
      try simp only [Act.put, List.setIfInBounds_toArray, List.set_cons_zero, List.set_cons_succ]
      refine takeH 21 (fun _ _ _ _ _ h => h) (by kernel_rfl) hHeld rfl (by kernel_rfl) (by rfl) (v := ?_) ?_ ?_
      rotate_left
      ((intro wz hz; (try dsimp only at hz); go_simp) <;> with_reducible rfl)
      try simp only [Act.put, List.setIfInBounds_toArray, List.set_cons_zero, List.set_cons_succ]
      refine takeH 22 (fun _ _ _ _ _ h => h) (by kernel_rfl) hHeld rfl (by kernel_rfl) (by rfl) (v := ?_) ?_ ?_
      rotate_left
      ((intro wz hz; (try dsimp only at hz); go_simp) <;> with_reducible rfl)
      try simp only [Act.put, List.setIfInBounds_toArray, List.set_cons_zero, List.set_cons_succ]
      refine takeH 23 (fun _ _ _ _ _ h => h) (by kernel_rfl) hHeld rfl (by kernel_rfl) (by rfl) (v := ?_) ?_ ?_
      rotate_left
      ((intro wz hz; (try dsimp only at hz); go_simp) <;> with_reducible rfl)
      try simp only [Act.put, List.setIfInBounds_toArray, List.set_cons_zero, List.set_cons_succ]
      refine takeH 24 (fun _ _ _ _ _ h => h) (by kernel_rfl) hHeld rfl (by kernel_rfl) (by rfl) (v := ?_) ?_ ?_
      rotate_left
      ((intro wz hz; (try dsimp only at hz); go_simp) <;> with_reducible rfl)
      try simp only [Act.put, List.setIfInBounds_toArray, List.set_cons_zero, List.set_cons_succ]
      refine takeH 25 (fun _ _ _ _ _ h => h) (by kernel_rfl) hHeld rfl (by kernel_rfl) (by rfl) (v := ?_) ?_ ?_
      rotate_left
      ((intro wz hz; (try dsimp only at hz); go_simp) <;> with_reducible rfl)
      try simp only [Act.put, List.setIfInBounds_toArray, List.set_cons_zero, List.set_cons_succ]
      refine takeH 26 (fun _ _ _ _ _ h => h) (by kernel_rfl) hHeld rfl (by kernel_rfl) (by rfl) (v := ?_) ?_ ?_
      rotate_left
      ((intro wz hz; (try dsimp only at hz); go_simp) <;> with_reducible rfl)
      try simp only [Act.put, List.setIfInBounds_toArray, List.set_cons_zero, List.set_cons_succ]
      refine takeH 27 (fun _ _ _ _ _ h => h) (by kernel_rfl) hHeld rfl (by kernel_rfl) (by rfl) (v := ?_) ?_ ?_
      rotate_left
      ((intro wz hz; (try dsimp only at hz); go_simp) <;> with_reducible rfl)
      try simp only [Act.put, List.setIfInBounds_toArray, List.set_cons_zero, List.set_cons_succ]
      refine wpAnyH_done (by kernel_rfl) (NoPanic.normal ?_) _
      have H13 := Lib.hid hHeld.2.2.2.2.2.2.2.2.2.2
      clear hHeld
      go_wp2_with fail
      go_ret
      exact ⟨by simp, H13.out.2⟩
theorem own_drew' {w : World} {base : Nat} {v : Value} {L : List Nat} (h : OwnB w base v L) : OwnB w.drew base v L := h
set_option maxRecDepth 8000 in
set_option maxHeartbeats 8000000 in
theorem walkNStaysG (w : World) (G : Hid (RowsAt w)) (k x y v o r e : Int) (ao : Option Addr) (len cap : Nat) (L : List Nat) (H : Hid (B8 len L)) (hl : ¬ 1000 < len) (S : Hid (SlI w.heap.size w ao cap L)) (a b c : Int) (E : Value) (hQ : E = .nilIface ∨ ∃ n : Int, E = errN n) (hI : ∀ ao cap (W : World), RowsAt W → SlI W.heap.size W ao cap L → Calls Tryd.prog 24 #[.int .u64 k, .agg #[.int .u64 x, .int .u64 y, .slice ao len cap]] W fun e' w' => e' = .returned (.tuple #[ntV a b c, E]) ∧ Below W.heap.size W w') (t px py : Int) (hA : ∀ W : World, Calls Tryd.prog 13 #[.int .u64 77] W fun e' w' => e' = .returned (.tuple #[adV t px py, .nilIface]) ∧ Below W.heap.size W w') (ex ey : Int) (B : List Nat) (HB8 : Hid (B8 32 B)) (hZ : ∀ W : World, RowsAt W → Calls Tryd.prog 19 #[ntV v o r, adV t px py, .int .u64 e] W fun e' w' => ∃ gs cs, e' = .returned (.tuple #[.agg #[.int .u64 ex, .int .u64 ey, .slice (some ⟨gs, 0, none⟩) 32 cs], .nilIface]) ∧ OwnB w' W.heap.size (.slice (some ⟨gs, 0, none⟩) 32 cs) B ∧ Below W.heap.size W w') :
    Calls Tryd.prog 7 #[.int .u64 k, .agg #[.int .u64 x, .int .u64 y, .slice ao len cap], ntV v o r, .int .u64 e] w fun e w' => e = .returned (.bool true) ∧ Below w.heap.size w w' := by
  have hl1 : ¬ (1000 : Int) < (len : Int) := by omega
  have cI := Lib.hid hI
  have hq := Lib.hid hQ
  clear hI hQ
  have cA := Lib.hid hA
  have cZ := Lib.hid hZ
  clear hA hZ
  go_enter Tryd.func7, Tryd.ntmps7
  go_upto_region 1 with fail
  have HB := Lib.hid (((HR.refl w).new #[.int .u64 x, .int .u64 y, .slice ao len cap] 44).new #[.int .u64 v, .int .u64 o, .int .u64 r] 41)
  simp only [World.size_alloc] at HB
  generalize (w.alloc (.cells #[.int .u64 x, .int .u64 y, .slice ao len cap] 44)).alloc (.cells #[.int .u64 v, .int .u64 o, .int .u64 r] 41) = w0 at HB ⊢
  obtain ⟨b6, hb6⟩ : ∃ z, w.heap.size + 1 = z := ⟨_, rfl⟩
  obtain ⟨b5, hb5⟩ : ∃ z, w.heap.size = z := ⟨_, rfl⟩
  have H0 : Hid (HR w w0 [(b6, #[.int .u64 v, .int .u64 o, .int .u64 r], 41), (b5, #[.int .u64 x, .int .u64 y, .slice ao len cap], 44)]) := Lib.hid (by rw [← hb6, ← hb5]; exact HB.out)
  rw [hb6, hb5]
  replace hb5 := Lib.hid hb5
  replace hb6 := Lib.hid hb6
  clear HB
  have c_b6_0 := H0.out.cell (b := b6) (cs := #[.int .u64 v, .int .u64 o, .int .u64 r]) (t := 41) (by simp) 0 rfl
  have c_b6_1 := H0.out.cell (b := b6) (cs := #[.int .u64 v, .int .u64 o, .int .u64 r]) (t := 41) (by simp) 1 rfl
  have c_b6_2 := H0.out.cell (b := b6) (cs := #[.int .u64 v, .int .u64 o, .int .u64 r]) (t := 41) (by simp) 2 rfl
  have c_b5_0 := H0.out.cell (b := b5) (cs := #[.int .u64 x, .int .u64 y, .slice ao len cap]) (t := 44) (by simp) 0 rfl
  have c_b5_1 := H0.out.cell (b := b5) (cs := #[.int .u64 x, .int .u64 y, .slice ao len cap]) (t := 44) (by simp) 1 rfl
  have c_b5_2 := H0.out.cell (b := b5) (cs := #[.int .u64 x, .int .u64 y, .slice ao len cap]) (t := 44) (by simp) 2 rfl
  go_wp2_with fail
  refine (up17 _ (G.out.below H0.out.2)).mono ?_
  rintro e' w1 ⟨rfl, hbn⟩
  have H1 := Lib.hid (H0.out.next hbn)
  clear c_b6_0 c_b6_1 c_b6_2 c_b5_0 c_b5_1 c_b5_2
  clear hbn H0
  have hS1 := S.out.next H1.out.2
  obtain ⟨g, cap2, w2, hap, hO2, hbw2⟩ := append_copy w1 ao len cap L H.out.len (by omega) (fun h => by have := hS1.no h; rw [H.out.len] at this; exact this) (fun h => by
    obtain ⟨b, o, e1, _, e3⟩ := hS1.bl (by rw [H.out.len]; exact h)
    exact ⟨b, o, e1, e3⟩)
  clear hS1
  have c_b5_0 := H1.out.cell (b := b5) (cs := #[.int .u64 x, .int .u64 y, .slice ao len cap]) (t := 44) (by simp) 0 rfl
  have c_b5_1 := H1.out.cell (b := b5) (cs := #[.int .u64 x, .int .u64 y, .slice ao len cap]) (t := 44) (by simp) 1 rfl
  have c_b5_2 := H1.out.cell (b := b5) (cs := #[.int .u64 x, .int .u64 y, .slice ao len cap]) (t := 44) (by simp) 2 rfl
  go_upto_region 4 with fail
  clear c_b5_0 c_b5_1 c_b5_2
  have H1a := Lib.hid (HR.alloc H1.out (.cells #[] 5))
  have c_b5_0 := H1a.out.cell (b := b5) (cs := #[.int .u64 x, .int .u64 y, .slice ao len cap]) (t := 44) (by simp) 0 rfl
  have c_b5_1 := H1a.out.cell (b := b5) (cs := #[.int .u64 x, .int .u64 y, .slice ao len cap]) (t := 44) (by simp) 1 rfl
  have c_b5_2 := H1a.out.cell (b := b5) (cs := #[.int .u64 x, .int .u64 y, .slice ao len cap]) (t := 44) (by simp) 2 rfl
  go_upto_region 5 with (at_builtin; refine wpList_appended rfl _ _ _ _ rfl _ _ _ rfl rfl hap ?_)
  clear c_b5_0 c_b5_1 c_b5_2
  have H2 := Lib.hid (H1.out.next hbw2)
  have O2 := Lib.hid hO2
  have cI2 := Lib.hid (cI.out (some ⟨g, 0, none⟩) cap2 w2 (G.out.below H2.out.2) (OwnB.sl hO2).2)
  clear hap hO2 hbw2 H1 H1a
  have c_b5_0 := H2.out.cell (b := b5) (cs := #[.int .u64 x, .int .u64 y, .slice ao len cap]) (t := 44) (by simp) 0 rfl
  have c_b5_1 := H2.out.cell (b := b5) (cs := #[.int .u64 x, .int .u64 y, .slice ao len cap]) (t := 44) (by simp) 1 rfl
  have c_b5_2 := H2.out.cell (b := b5) (cs := #[.int .u64 x, .int .u64 y, .slice ao len cap]) (t := 44) (by simp) 2 rfl
  go_wp2_with fail
  refine cI2.out.mono ?_
  rintro e' w3 ⟨rfl, hbn⟩
  have H3 := Lib.hid (H2.out.next hbn)
  have O3 := Lib.hid (O2.out.below hbn)
  clear c_b5_0 c_b5_1 c_b5_2
  clear hbn H2 O2 cI2
  go_upto_region 6 with fail
  have O4 := Lib.hid (O3.out.below (bAlloc (Below.refl _ w3) (.cells #[.int .u64 a, .int .u64 b, .int .u64 c] 41)))
  clear O3
  have hn := (H3.out).new #[.int .u64 a, .int .u64 b, .int .u64 c] 41
  generalize w3.alloc (.cells #[.int .u64 a, .int .u64 b, .int .u64 c] 41) = w4 at hn O4 ⊢
  obtain ⟨bm, hbm⟩ : ∃ z, w3.heap.size = z := ⟨_, rfl⟩
  rw [hbm] at hn ⊢
  have H4 : Hid (HR w w4 [(bm, #[.int .u64 a, .int .u64 b, .int .u64 c], 41), (b6, #[.int .u64 v, .int .u64 o, .int .u64 r], 41), (b5, #[.int .u64 x, .int .u64 y, .slice ao len cap], 44)]) := Lib.hid hn
  replace hbm := Lib.hid hbm
  clear hn H3
  have z1 := own_conv O4.out
  have z2 := (S.out.next H4.out.2).conv H.out.len
  have c_b5_0 := H4.out.cell (b := b5) (cs := #[.int .u64 x, .int .u64 y, .slice ao len cap]) (t := 44) (by simp) 0 rfl
  have c_b5_1 := H4.out.cell (b := b5) (cs := #[.int .u64 x, .int .u64 y, .slice ao len cap]) (t := 44) (by simp) 1 rfl
  have c_b5_2 := H4.out.cell (b := b5) (cs := #[.int .u64 x, .int .u64 y, .slice ao len cap]) (t := 44) (by simp) 2 rfl
  go_upto_region 8 with fail
  clear z1 z2 O4
  clear c_b5_0 c_b5_1 c_b5_2
  go_wp2_with fail
  refine (cA.out _).mono ?_
  rintro e' w5 ⟨rfl, hbn⟩
  have H5 := Lib.hid (H4.out.next hbn)
  clear hbn H4
  go_upto_region 9 with fail
  have hn := (H5.out).new #[.int .u64 t, .int .u64 px, .int .u64 py] 31
  generalize w5.alloc (.cells #[.int .u64 t, .int .u64 px, .int .u64 py] 31) = w6 at hn ⊢
  obtain ⟨ba, hba⟩ : ∃ z, w5.heap.size = z := ⟨_, rfl⟩
  rw [hba] at hn ⊢
  have H6 : Hid (HR w w6 [(ba, #[.int .u64 t, .int .u64 px, .int .u64 py], 31), (bm, #[.int .u64 a, .int .u64 b, .int .u64 c], 41), (b6, #[.int .u64 v, .int .u64 o, .int .u64 r], 41), (b5, #[.int .u64 x, .int .u64 y, .slice ao len cap], 44)]) := Lib.hid hn
  replace hba := Lib.hid hba
  clear hn H5
  have c_ba_0 := H6.out.cell (b := ba) (cs := #[.int .u64 t, .int .u64 px, .int .u64 py]) (t := 31) (by simp) 0 rfl
  have c_ba_1 := H6.out.cell (b := ba) (cs := #[.int .u64 t, .int .u64 px, .int .u64 py]) (t := 31) (by simp) 1 rfl
  have c_ba_2 := H6.out.cell (b := ba) (cs := #[.int .u64 t, .int .u64 px, .int .u64 py]) (t := 31) (by simp) 2 rfl
  have c_b6_0 := H6.out.cell (b := b6) (cs := #[.int .u64 v, .int .u64 o, .int .u64 r]) (t := 41) (by simp) 0 rfl
  have c_b6_1 := H6.out.cell (b := b6) (cs := #[.int .u64 v, .int .u64 o, .int .u64 r]) (t := 41) (by simp) 1 rfl
  have c_b6_2 := H6.out.cell (b := b6) (cs := #[.int .u64 v, .int .u64 o, .int .u64 r]) (t := 41) (by simp) 2 rfl
  go_wp2_with fail
  refine (cZ.out _ (G.out.below H6.out.2)).mono ?_
  rintro e' w7 ⟨gs, cs, rfl, hO, hbn⟩
  have H7 := Lib.hid (H6.out.next hbn)
  have hge := own_ge hO
  have hlt := own_lt hO
  have hn0 : Hid (ba < w6.heap.size ∧ bm < w6.heap.size ∧ b6 < w6.heap.size ∧ b5 < w6.heap.size ∧ w.heap.size ≤ w6.heap.size) := Lib.hid ⟨H6.out.lt (b := ba) (cs := #[.int .u64 t, .int .u64 px, .int .u64 py]) (t := 31) (by simp), H6.out.lt (b := bm) (cs := #[.int .u64 a, .int .u64 b, .int .u64 c]) (t := 41) (by simp), H6.out.lt (b := b6) (cs := #[.int .u64 v, .int .u64 o, .int .u64 r]) (t := 41) (by simp), H6.out.lt (b := b5) (cs := #[.int .u64 x, .int .u64 y, .slice ao len cap]) (t := 44) (by simp), H6.out.2.size⟩
  clear c_ba_0 c_ba_1 c_ba_2 c_b6_0 c_b6_1 c_b6_2
  clear hbn H6
  go_upto_region 10 with fail
  have O8 := Lib.hid (hO.below (bAlloc (Below.refl _ w7) (.cells #[.int .u64 ex, .int .u64 ey, .slice (some ⟨gs, 0, none⟩) 32 cs] 44)))
  clear hO
  have hn := (H7.out).new #[.int .u64 ex, .int .u64 ey, .slice (some ⟨gs, 0, none⟩) 32 cs] 44
  generalize w7.alloc (.cells #[.int .u64 ex, .int .u64 ey, .slice (some ⟨gs, 0, none⟩) 32 cs] 44) = w8 at hn O8 ⊢
  obtain ⟨bs, hbs⟩ : ∃ z, w7.heap.size = z := ⟨_, rfl⟩
  rw [hbs] at hn ⊢
  have H8 : Hid (HR w w8 [(bs, #[.int .u64 ex, .int .u64 ey, .slice (some ⟨gs, 0, none⟩) 32 cs], 44), (ba, #[.int .u64 t, .int .u64 px, .int .u64 py], 31), (bm, #[.int .u64 a, .int .u64 b, .int .u64 c], 41), (b6, #[.int .u64 v, .int .u64 o, .int .u64 r], 41), (b5, #[.int .u64 x, .int .u64 y, .slice ao len cap], 44)]) := Lib.hid hn
  replace hbs := Lib.hid hbs
  clear hn H7
  have hne : Hid (ba < gs ∧ bm < gs ∧ b6 < gs ∧ b5 < gs ∧ w.heap.size ≤ gs ∧ gs < bs) := Lib.hid (by have := hn0.out; have := hbs.out; omega)
  clear hge hlt hn0
  have hci := own_cap O8.out
  have hci1 : (32 : Int) ≤ (cs : Int) := by rw [HB8.out.len] at hci; omega
  have zc := own_conv O8.out
  have c_bs_0 := H8.out.cell (b := bs) (cs := #[.int .u64 ex, .int .u64 ey, .slice (some ⟨gs, 0, none⟩) 32 cs]) (t := 44) (by simp) 0 rfl
  have c_bs_1 := H8.out.cell (b := bs) (cs := #[.int .u64 ex, .int .u64 ey, .slice (some ⟨gs, 0, none⟩) 32 cs]) (t := 44) (by simp) 1 rfl
  have c_bs_2 := H8.out.cell (b := bs) (cs := #[.int .u64 ex, .int .u64 ey, .slice (some ⟨gs, 0, none⟩) 32 cs]) (t := 44) (by simp) 2 rfl
  go_upto_region 12 with fail
  clear zc hci
  clear c_bs_0 c_bs_1 c_bs_2
  have hLo : Hid (LoI w6.heap.size w8 gs cs 32 0) := Lib.hid ⟨by omega, by omega, B, HB8.out.len, HB8.out.lt, O8.out⟩
  clear O8
  go_loopw [18] (fun q wr => ∃ i : Int, q = .int .i64 i ∧ Hid (LoI w6.heap.size wr gs cs 32 i) ∧ Hid (HR w wr [(bs, #[.int .u64 ex, .int .u64 ey, .slice (some ⟨gs, 0, none⟩) 32 cs], 44), (ba, #[.int .u64 t, .int .u64 px, .int .u64 py], 31), (bm, #[.int .u64 a, .int .u64 b, .int .u64 c], 41), (b6, #[.int .u64 v, .int .u64 o, .int .u64 r], 41), (b5, #[.int .u64 x, .int .u64 y, .slice ao len cap], 44)])) (fun q _ => (32 - intOf q).toNat)
  case atStart => exact ⟨0, rfl, hLo, H8⟩
  case round =>
    clear hLo H8
    rename World => wr
    obtain ⟨i, rfl, HL, HX⟩ := hrel
    have i0 := HL.out.1
    have i1 := HL.out.2.1
    by_cases hi : i < 32
    · obtain ⟨v', cv, fv, v0', v1', HN⟩ := HL.out.step hi
      have HN2 := Lib.hid HN
      clear HN HL
      have c_bs_0 := HX.out.cell (b := bs) (cs := #[.int .u64 ex, .int .u64 ey, .slice (some ⟨gs, 0, none⟩) 32 cs]) (t := 44) (by simp) 0 rfl
      have c_bs_1 := HX.out.cell (b := bs) (cs := #[.int .u64 ex, .int .u64 ey, .slice (some ⟨gs, 0, none⟩) 32 cs]) (t := 44) (by simp) 1 rfl
      have c_bs_2 := HX.out.cell (b := bs) (cs := #[.int .u64 ex, .int .u64 ey, .slice (some ⟨gs, 0, none⟩) 32 cs]) (t := 44) (by simp) 2 rfl
      go_upto_region 14 with fail
      clear c_bs_0 c_bs_1 c_bs_2
      refine wp_region_noPanic ?_
      refine wp_region_held_drew (S := fun wq => wq.cell? ⟨bs, 0, none⟩ = some (.int .u64 ex) ∧ wq.cell? ⟨bs, 1, none⟩ = some (.int .u64 ey) ∧ wq.cell? ⟨bs, 2, none⟩ = some (.slice (some ⟨gs, 0, none⟩) 32 cs) ∧ HR w wq [(bs, #[.int .u64 ex, .int .u64 ey, .slice (some ⟨gs, 0, none⟩) 32 cs], 44), (ba, #[.int .u64 t, .int .u64 px, .int .u64 py], 31), (bm, #[.int .u64 a, .int .u64 b, .int .u64 c], 41), (b6, #[.int .u64 v, .int .u64 o, .int .u64 r], 41), (b5, #[.int .u64 x, .int .u64 y, .slice ao len cap], 44)]) (by kernel_rfl) ?_ (fun hHeld => ?_)
      · have hq0 := HR.drew HX.out
        exact ⟨HR.cell hq0 (b := bs) (cs := #[.int .u64 ex, .int .u64 ey, .slice (some ⟨gs, 0, none⟩) 32 cs]) (t := 44) (by simp) 0 rfl, HR.cell hq0 (b := bs) (cs := #[.int .u64 ex, .int .u64 ey, .slice (some ⟨gs, 0, none⟩) 32 cs]) (t := 44) (by simp) 1 rfl, HR.cell hq0 (b := bs) (cs := #[.int .u64 ex, .int .u64 ey, .slice (some ⟨gs, 0, none⟩) 32 cs]) (t := 44) (by simp) 2 rfl, hq0⟩
      refine takeH 0 (fun _ _ _ _ _ h => h) (by kernel_rfl) hHeld rfl (by kernel_rfl) (by rfl) (v := ?_) ?_ ?_
      rotate_left
      ((intro wz hz; (try dsimp only at hz); go_simp) <;> with_reducible rfl)
      try simp only [Act.put, List.setIfInBounds_toArray, List.set_cons_zero, List.set_cons_succ]
      refine takeH 1 (fun _ _ _ _ _ h => h) (by kernel_rfl) hHeld rfl (by kernel_rfl) (by rfl) (v := ?_) ?_ ?_
      rotate_left
      ((intro wz hz; (try dsimp only at hz); go_simp) <;> with_reducible rfl)
      try simp only [Act.put, List.setIfInBounds_toArray, List.set_cons_zero, List.set_cons_succ]
      refine takeH 2 (fun _ _ _ _ _ h => h) (by kernel_rfl) hHeld rfl (by kernel_rfl) (by rfl) (v := ?_) ?_ ?_
      rotate_left
      ((intro wz hz; (try dsimp only at hz); go_simp) <;> with_reducible rfl)
      try simp only [Act.put, List.setIfInBounds_toArray, List.set_cons_zero, List.set_cons_succ]
      refine takeH 3 (fun _ _ _ _ _ h => h) (by kernel_rfl) hHeld rfl (by kernel_rfl) (by rfl) (v := ?_) ?_ ?_
      rotate_left
      ((intro wz hz; (try dsimp only at hz); go_simp) <;> with_reducible rfl)
      try simp only [Act.put, List.setIfInBounds_toArray, List.set_cons_zero, List.set_cons_succ]
      refine takeH 4 (fun _ _ _ _ _ h => h) (by kernel_rfl) hHeld rfl (by kernel_rfl) (by rfl) (v := ?_) ?_ ?_
      rotate_left
      ((intro wz hz; (try dsimp only at hz); go_simp) <;> with_reducible rfl)
      try simp only [Act.put, List.setIfInBounds_toArray, List.set_cons_zero, List.set_cons_succ]
      refine takeH 5 (fun _ _ _ _ _ h => h) (by kernel_rfl) hHeld rfl (by kernel_rfl) (by rfl) (v := ?_) ?_ ?_
      rotate_left
      ((intro wz hz; (try dsimp only at hz); go_simp) <;> with_reducible rfl)
      try simp only [Act.put, List.setIfInBounds_toArray, List.set_cons_zero, List.set_cons_succ]
      refine takeH 6 (fun _ _ _ _ _ h => h) (by kernel_rfl) hHeld rfl (by kernel_rfl) (by rfl) (v := ?_) ?_ ?_
      rotate_left
      ((intro wz hz; (try dsimp only at hz); go_simp) <;> with_reducible rfl)
      try simp only [Act.put, List.setIfInBounds_toArray, List.set_cons_zero, List.set_cons_succ]
      refine stepH 7 (by kernel_rfl) rfl (by rfl) (fun K hK => ?_)
      go_simp
      refine hK.out _ _ ?_ (fun hHeld => ?_)
      · exact hHeld
      clear hK K
      try simp only [Act.put, List.setIfInBounds_toArray, List.set_cons_zero, List.set_cons_succ]
      refine takeH 8 (fun _ _ _ _ _ h => h) (by kernel_rfl) hHeld rfl (by kernel_rfl) (by rfl) (v := ?_) ?_ ?_
      rotate_left
      ((intro wz hz; (try dsimp only at hz); go_simp) <;> with_reducible rfl)
      try simp only [Act.put, List.setIfInBounds_toArray, List.set_cons_zero, List.set_cons_succ]
      refine takeH 9 (fun _ _ _ _ _ h => h) (by kernel_rfl) hHeld rfl (by kernel_rfl) (by rfl) (v := ?_) ?_ ?_
      rotate_left
      ((intro wz hz; (try dsimp only at hz); go_simp) <;> with_reducible rfl)
      try simp only [Act.put, List.setIfInBounds_toArray, List.set_cons_zero, List.set_cons_succ]
      refine stepH 10 (by kernel_rfl) rfl (by rfl) (fun K hK => ?_)
      go_simp
      refine hK.out _ _ ?_ (fun hHeld => ?_)
      · exact ⟨HR.cell (HR.like (HR.other (hHeld.2.2.2) (D := gs) (o := i.toNat) (v := .int .u8 ((v' + 1) % 256)) (by have := hne.out; simp; omega) (by have := hne.out; omega)) rfl rfl rfl rfl) (b := bs) (cs := #[.int .u64 ex, .int .u64 ey, .slice (some ⟨gs, 0, none⟩) 32 cs]) (t := 44) (by simp) 0 rfl, HR.cell (HR.like (HR.other (hHeld.2.2.2) (D := gs) (o := i.toNat) (v := .int .u8 ((v' + 1) % 256)) (by have := hne.out; simp; omega) (by have := hne.out; omega)) rfl rfl rfl rfl) (b := bs) (cs := #[.int .u64 ex, .int .u64 ey, .slice (some ⟨gs, 0, none⟩) 32 cs]) (t := 44) (by simp) 1 rfl, HR.cell (HR.like (HR.other (hHeld.2.2.2) (D := gs) (o := i.toNat) (v := .int .u8 ((v' + 1) % 256)) (by have := hne.out; simp; omega) (by have := hne.out; omega)) rfl rfl rfl rfl) (b := bs) (cs := #[.int .u64 ex, .int .u64 ey, .slice (some ⟨gs, 0, none⟩) 32 cs]) (t := 44) (by simp) 2 rfl, (HR.like (HR.other (hHeld.2.2.2) (D := gs) (o := i.toNat) (v := .int .u8 ((v' + 1) % 256)) (by have := hne.out; simp; omega) (by have := hne.out; omega)) rfl rfl rfl rfl)⟩
      clear hK K
      try simp only [Act.put, List.setIfInBounds_toArray, List.set_cons_zero, List.set_cons_succ]
      refine wpAnyH_done (by kernel_rfl) (NoPanic.normal ?_) _
      have HY := hHeld.2.2.2
      clear hHeld HX cv fv
      go_wp2_with fail
      go_roundw
      case rel => exact ⟨i + 1, rfl, Lib.hid HN2.out, Lib.hid HY⟩
      case measure => simp [intOf]; omega
    · clear HL
      have c_bs_0 := HX.out.cell (b := bs) (cs := #[.int .u64 ex, .int .u64 ey, .slice (some ⟨gs, 0, none⟩) 32 cs]) (t := 44) (by simp) 0 rfl
      have c_bs_1 := HX.out.cell (b := bs) (cs := #[.int .u64 ex, .int .u64 ey, .slice (some ⟨gs, 0, none⟩) 32 cs]) (t := 44) (by simp) 1 rfl
      have c_bs_2 := HX.out.cell (b := bs) (cs := #[.int .u64 ex, .int .u64 ey, .slice (some ⟨gs, 0, none⟩) 32 cs]) (t := 44) (by simp) 2 rfl
      have c_ba_0 := HX.out.cell (b := ba) (cs := #[.int .u64 t, .int .u64 px, .int .u64 py]) (t := 31) (by simp) 0 rfl
      have c_ba_1 := HX.out.cell (b := ba) (cs := #[.int .u64 t, .int .u64 px, .int .u64 py]) (t := 31) (by simp) 1 rfl
      have c_ba_2 := HX.out.cell (b := ba) (cs := #[.int .u64 t, .int .u64 px, .int .u64 py]) (t := 31) (by simp) 2 rfl
      have c_b6_0 := HX.out.cell (b := b6) (cs := #[.int .u64 v, .int .u64 o, .int .u64 r]) (t := 41) (by simp) 0 rfl
      have c_b6_1 := HX.out.cell (b := b6) (cs := #[.int .u64 v, .int .u64 o, .int .u64 r]) (t := 41) (by simp) 1 rfl
      have c_b6_2 := HX.out.cell (b := b6) (cs := #[.int .u64 v, .int .u64 o, .int .u64 r]) (t := 41) (by simp) 2 rfl
      go_wp2_with fail
      refine (cZ.out _ (G.out.below HX.out.2)).mono ?_
      rintro e' w9 ⟨hs, ds, rfl, hO, hbn⟩
      have H9 := Lib.hid (HX.out.next hbn)
      clear c_bs_0 c_bs_1 c_bs_2 c_ba_0 c_ba_1 c_ba_2 c_b6_0 c_b6_1 c_b6_2
      clear hbn HX
      go_upto_region 16 with fail
      have O10 := Lib.hid (hO.below (bAlloc (Below.refl _ w9) (.cells #[.int .u64 ex, .int .u64 ey, .slice (some ⟨hs, 0, none⟩) 32 ds] 44)))
      clear hO
      have hn := (H9.out).new #[.int .u64 ex, .int .u64 ey, .slice (some ⟨hs, 0, none⟩) 32 ds] 44
      generalize w9.alloc (.cells #[.int .u64 ex, .int .u64 ey, .slice (some ⟨hs, 0, none⟩) 32 ds] 44) = w10 at hn O10 ⊢
      obtain ⟨bv, hbv⟩ : ∃ z, w9.heap.size = z := ⟨_, rfl⟩
      rw [hbv] at hn ⊢
      have H10 : Hid (HR w w10 [(bv, #[.int .u64 ex, .int .u64 ey, .slice (some ⟨hs, 0, none⟩) 32 ds], 44), (bs, #[.int .u64 ex, .int .u64 ey, .slice (some ⟨gs, 0, none⟩) 32 cs], 44), (ba, #[.int .u64 t, .int .u64 px, .int .u64 py], 31), (bm, #[.int .u64 a, .int .u64 b, .int .u64 c], 41), (b6, #[.int .u64 v, .int .u64 o, .int .u64 r], 41), (b5, #[.int .u64 x, .int .u64 y, .slice ao len cap], 44)]) := Lib.hid hn
      replace hbv := Lib.hid hbv
      clear hn H9
      have cI3 := Lib.hid (cI.out ao cap w10 (G.out.below H10.out.2) (S.out.next H10.out.2))
      have c_b5_0 := H10.out.cell (b := b5) (cs := #[.int .u64 x, .int .u64 y, .slice ao len cap]) (t := 44) (by simp) 0 rfl
      have c_b5_1 := H10.out.cell (b := b5) (cs := #[.int .u64 x, .int .u64 y, .slice ao len cap]) (t := 44) (by simp) 1 rfl
      have c_b5_2 := H10.out.cell (b := b5) (cs := #[.int .u64 x, .int .u64 y, .slice ao len cap]) (t := 44) (by simp) 2 rfl
      go_wp2_with fail
      refine cI3.out.mono ?_
      rintro e' w11 ⟨rfl, hbn⟩
      have H11 := Lib.hid (H10.out.next hbn)
      have O11 := Lib.hid (O10.out.below hbn)
      clear c_b5_0 c_b5_1 c_b5_2
      clear hbn H10 cI3 O10
      go_upto_region 17 with fail
      have O12 := Lib.hid (O11.out.below (bAlloc (Below.refl _ w11) (.cells #[.int .u64 a, .int .u64 b, .int .u64 c] 41)))
      clear O11
      have hn := (H11.out).new #[.int .u64 a, .int .u64 b, .int .u64 c] 41
      generalize w11.alloc (.cells #[.int .u64 a, .int .u64 b, .int .u64 c] 41) = w12 at hn O12 ⊢
      obtain ⟨bn, hbn⟩ : ∃ z, w11.heap.size = z := ⟨_, rfl⟩
      rw [hbn] at hn ⊢
      have H12 : Hid (HR w w12 [(bn, #[.int .u64 a, .int .u64 b, .int .u64 c], 41), (bv, #[.int .u64 ex, .int .u64 ey, .slice (some ⟨hs, 0, none⟩) 32 ds], 44), (bs, #[.int .u64 ex, .int .u64 ey, .slice (some ⟨gs, 0, none⟩) 32 cs], 44), (ba, #[.int .u64 t, .int .u64 px, .int .u64 py], 31), (bm, #[.int .u64 a, .int .u64 b, .int .u64 c], 41), (b6, #[.int .u64 v, .int .u64 o, .int .u64 r], 41), (b5, #[.int .u64 x, .int .u64 y, .slice ao len cap], 44)]) := Lib.hid hn
      replace hbn := Lib.hid hbn
      clear hn H11
      rcases hq.out with rfl | ⟨n, rfl⟩
      · refine wp_region_noPanic ?_
        refine wp_region_held_drew (S := fun wq => wq.cell? ⟨bn, 0, none⟩ = some (.int .u64 a) ∧ wq.cell? ⟨bn, 1, none⟩ = some (.int .u64 b) ∧ wq.cell? ⟨bn, 2, none⟩ = some (.int .u64 c) ∧ wq.cell? ⟨bv, 0, none⟩ = some (.int .u64 ex) ∧ wq.cell? ⟨bv, 1, none⟩ = some (.int .u64 ey) ∧ wq.cell? ⟨bv, 2, none⟩ = some (.slice (some ⟨hs, 0, none⟩) 32 ds) ∧ wq.cell? ⟨bm, 0, none⟩ = some (.int .u64 a) ∧ wq.cell? ⟨bm, 1, none⟩ = some (.int .u64 b) ∧ wq.cell? ⟨bm, 2, none⟩ = some (.int .u64 c) ∧ (convert 42 9 (.slice (some ⟨hs, 0, none⟩) 32 ds)).run Tryd.prog wq = .ok (.string (strB B)) wq ∧ HR w wq [(bn, #[.int .u64 a, .int .u64 b, .int .u64 c], 41), (bv, #[.int .u64 ex, .int .u64 ey, .slice (some ⟨hs, 0, none⟩) 32 ds], 44), (bs, #[.int .u64 ex, .int .u64 ey, .slice (some ⟨gs, 0, none⟩) 32 cs], 44), (ba, #[.int .u64 t, .int .u64 px, .int .u64 py], 31), (bm, #[.int .u64 a, .int .u64 b, .int .u64 c], 41), (b6, #[.int .u64 v, .int .u64 o, .int .u64 r], 41), (b5, #[.int .u64 x, .int .u64 y, .slice ao len cap], 44)]) (by kernel_rfl) ?_ (fun hHeld => ?_)
        · have hq0 := HR.drew H12.out
          exact ⟨HR.cell hq0 (b := bn) (cs := #[.int .u64 a, .int .u64 b, .int .u64 c]) (t := 41) (by simp) 0 rfl, HR.cell hq0 (b := bn) (cs := #[.int .u64 a, .int .u64 b, .int .u64 c]) (t := 41) (by simp) 1 rfl, HR.cell hq0 (b := bn) (cs := #[.int .u64 a, .int .u64 b, .int .u64 c]) (t := 41) (by simp) 2 rfl, HR.cell hq0 (b := bv) (cs := #[.int .u64 ex, .int .u64 ey, .slice (some ⟨hs, 0, none⟩) 32 ds]) (t := 44) (by simp) 0 rfl, HR.cell hq0 (b := bv) (cs := #[.int .u64 ex, .int .u64 ey, .slice (some ⟨hs, 0, none⟩) 32 ds]) (t := 44) (by simp) 1 rfl, HR.cell hq0 (b := bv) (cs := #[.int .u64 ex, .int .u64 ey, .slice (some ⟨hs, 0, none⟩) 32 ds]) (t := 44) (by simp) 2 rfl, HR.cell hq0 (b := bm) (cs := #[.int .u64 a, .int .u64 b, .int .u64 c]) (t := 41) (by simp) 0 rfl, HR.cell hq0 (b := bm) (cs := #[.int .u64 a, .int .u64 b, .int .u64 c]) (t := 41) (by simp) 1 rfl, HR.cell hq0 (b := bm) (cs := #[.int .u64 a, .int .u64 b, .int .u64 c]) (t := 41) (by simp) 2 rfl, (own_conv (own_drew' O12.out)), hq0⟩
        refine takeH 0 (fun _ _ _ _ _ h => h) (by kernel_rfl) hHeld rfl (by kernel_rfl) (by rfl) (v := ?_) ?_ ?_
        rotate_left
        ((intro wz hz; (try dsimp only at hz); go_simp) <;> with_reducible rfl)
        try simp only [Act.put, List.setIfInBounds_toArray, List.set_cons_zero, List.set_cons_succ]
        refine takeH 1 (fun _ _ _ _ _ h => h) (by kernel_rfl) hHeld rfl (by kernel_rfl) (by rfl) (v := ?_) ?_ ?_
        rotate_left
        ((intro wz hz; (try dsimp only at hz); go_simp) <;> with_reducible rfl)
        try simp only [Act.put, List.setIfInBounds_toArray, List.set_cons_zero, List.set_cons_succ]
        refine takeH 2 (fun _ _ _ _ _ h => h) (by kernel_rfl) hHeld rfl (by kernel_rfl) (by rfl) (v := ?_) ?_ ?_
        rotate_left
        ((intro wz hz; (try dsimp only at hz); go_simp) <;> with_reducible rfl)
        try simp only [Act.put, List.setIfInBounds_toArray, List.set_cons_zero, List.set_cons_succ]
        refine takeH 3 (fun _ _ _ _ _ h => h) (by kernel_rfl) hHeld rfl (by kernel_rfl) (by rfl) (v := ?_) ?_ ?_
        rotate_left
        ((intro wz hz; (try dsimp only at hz); go_simp) <;> with_reducible rfl)
        try simp only [Act.put, List.setIfInBounds_toArray, List.set_cons_zero, List.set_cons_succ]
        refine takeH 4 (fun _ _ _ _ _ h => h) (by kernel_rfl) hHeld rfl (by kernel_rfl) (by rfl) (v := ?_) ?_ ?_
        rotate_left
        ((intro wz hz; (try dsimp only at hz); go_simp) <;> with_reducible rfl)
        try simp only [Act.put, List.setIfInBounds_toArray, List.set_cons_zero, List.set_cons_succ]
        refine takeH 5 (fun _ _ _ _ _ h => h) (by kernel_rfl) hHeld rfl (by kernel_rfl) (by rfl) (v := ?_) ?_ ?_
        rotate_left
        ((intro wz hz; (try dsimp only at hz); go_simp) <;> with_reducible rfl)
        try simp only [Act.put, List.setIfInBounds_toArray, List.set_cons_zero, List.set_cons_succ]
        refine takeH 6 (fun _ _ _ _ _ h => h) (by kernel_rfl) hHeld rfl (by kernel_rfl) (by rfl) (v := ?_) ?_ ?_
        rotate_left
        ((intro wz hz; (try dsimp only at hz); go_simp) <;> with_reducible rfl)
        try simp only [Act.put, List.setIfInBounds_toArray, List.set_cons_zero, List.set_cons_succ]
        refine takeH 7 (fun _ _ _ _ _ h => h) (by kernel_rfl) hHeld rfl (by kernel_rfl) (by rfl) (v := ?_) ?_ ?_
        rotate_left
        ((intro wz hz; (try dsimp only at hz); go_simp) <;> with_reducible rfl)
        try simp only [Act.put, List.setIfInBounds_toArray, List.set_cons_zero, List.set_cons_succ]
        refine takeH 8 (fun _ _ _ _ _ h => h) (by kernel_rfl) hHeld rfl (by kernel_rfl) (by rfl) (v := ?_) ?_ ?_
        rotate_left
        ((intro wz hz; (try dsimp only at hz); go_simp) <;> with_reducible rfl)
        try simp only [Act.put, List.setIfInBounds_toArray, List.set_cons_zero, List.set_cons_succ]
        refine takeH 9 (fun _ _ _ _ _ h => h) (by kernel_rfl) hHeld rfl (by kernel_rfl) (by rfl) (v := ?_) ?_ ?_
        rotate_left
        ((intro wz hz; (try dsimp only at hz); go_simp) <;> with_reducible rfl)
        try simp only [Act.put, List.setIfInBounds_toArray, List.set_cons_zero, List.set_cons_succ]
        refine takeH 10 (fun _ _ _ _ _ h => h) (by kernel_rfl) hHeld rfl (by kernel_rfl) (by rfl) (v := ?_) ?_ ?_
        rotate_left
        ((intro wz hz; (try dsimp only at hz); go_simp) <;> with_reducible rfl)
        try simp only [Act.put, List.setIfInBounds_toArray, List.set_cons_zero, List.set_cons_succ]
        refine takeH 11 (fun _ _ _ _ _ h => h) (by kernel_rfl) hHeld rfl (by kernel_rfl) (by rfl) (v := ?_) ?_ ?_
        rotate_left
        ((intro wz hz; (try dsimp only at hz); go_simp) <;> with_reducible rfl)
        try simp only [Act.put, List.setIfInBounds_toArray, List.set_cons_zero, List.set_cons_succ]
        refine takeH 12 (fun _ _ _ _ _ h => h) (by kernel_rfl) hHeld rfl (by kernel_rfl) (by rfl) (v := ?_) ?_ ?_
        rotate_left
        ((intro wz hz; (try dsimp only at hz); go_simp) <;> with_reducible rfl)
        try simp only [Act.put, List.setIfInBounds_toArray, List.set_cons_zero, List.set_cons_succ]
        refine takeH 13 (fun _ _ _ _ _ h => h) (by kernel_rfl) hHeld rfl (by kernel_rfl) (by rfl) (v := ?_) ?_ ?_
        rotate_left
        ((intro wz hz; (try dsimp only at hz); go_simp) <;> with_reducible rfl)
        try simp only [Act.put, List.setIfInBounds_toArray, List.set_cons_zero, List.set_cons_succ]
        refine takeH 14 (fun _ _ _ _ _ h => h) (by kernel_rfl) hHeld rfl (by kernel_rfl) (by rfl) (v := ?_) ?_ ?_
        rotate_left
        ((intro wz hz; (try dsimp only at hz); go_simp) <;> with_reducible rfl)
        try simp only [Act.put, List.setIfInBounds_toArray, List.set_cons_zero, List.set_cons_succ]
        refine takeH 15 (fun _ _ _ _ _ h => h) (by kernel_rfl) hHeld rfl (by kernel_rfl) (by rfl) (v := ?_) ?_ ?_
        rotate_left
        ((intro wz hz; (try dsimp only at hz); go_simp) <;> with_reducible rfl)
        try simp only [Act.put, List.setIfInBounds_toArray, List.set_cons_zero, List.set_cons_succ]
        refine takeH 16 (fun _ _ _ _ _ h => h) (by kernel_rfl) hHeld rfl (by kernel_rfl) (by rfl) (v := ?_) ?_ ?_
        rotate_left
        ((intro wz hz; (try dsimp only at hz); go_simp) <;> with_reducible rfl)
        try simp only [Act.put, List.setIfInBounds_toArray, List.set_cons_zero, List.set_cons_succ]
        refine takeH 17 (fun _ _ _ _ _ h => h) (by kernel_rfl) hHeld rfl (by kernel_rfl) (by rfl) (v := ?_) ?_ ?_
        rotate_left
        ((intro wz hz; (try dsimp only at hz); go_simp) <;> with_reducible rfl)
        try simp only [Act.put, List.setIfInBounds_toArray, List.set_cons_zero, List.set_cons_succ]
        refine takeH 18 (fun _ _ _ _ _ h => h) (by kernel_rfl) hHeld rfl (by kernel_rfl) (by rfl) (v := ?_) ?_ ?_
        rotate_left
        ((intro wz hz; (try dsimp only at hz); go_simp) <;> with_reducible rfl)
        try simp only [Act.put, List.setIfInBounds_toArray, List.set_cons_zero, List.set_cons_succ]
        refine takeH 19 (fun _ _ _ _ _ h => h) (by kernel_rfl) hHeld rfl (by kernel_rfl) (by rfl) (v := ?_) ?_ ?_
        rotate_left
        ((intro wz hz; (try dsimp only at hz); go_simp) <;> with_reducible rfl)
        try simp only [Act.put, List.setIfInBounds_toArray, List.set_cons_zero, List.set_cons_succ]
        refine takeH 20 (fun _ _ _ _ _ h => h) (by kernel_rfl) hHeld rfl (by kernel_rfl) (by rfl) (v := ?_) ?_ ?_
        rotate_left
        ((intro wz hz; (try dsimp only at hz); go_simp) <;> with_reducible rfl)
        try simp only [Act.put, List.setIfInBounds_toArray, List.set_cons_zero, List.set_cons_succ]
        refine takeH 21 (fun _ _ _ _ _ h => h) (by kernel_rfl) hHeld rfl (by kernel_rfl) (by rfl) (v := ?_) ?_ ?_
        rotate_left
        ((intro wz hz; (try dsimp only at hz); go_simp) <;> with_reducible rfl)
        try simp only [Act.put, List.setIfInBounds_toArray, List.set_cons_zero, List.set_cons_succ]
        refine takeH 22 (fun _ _ _ _ _ h => h) (by kernel_rfl) hHeld rfl (by kernel_rfl) (by rfl) (v := ?_) ?_ ?_
        rotate_left
        ((intro wz hz; (try dsimp only at hz); go_simp) <;> with_reducible rfl)
        try simp only [Act.put, List.setIfInBounds_toArray, List.set_cons_zero, List.set_cons_succ]
        refine takeH 23 (fun _ _ _ _ _ h => h) (by kernel_rfl) hHeld rfl (by kernel_rfl) (by rfl) (v := ?_) ?_ ?_
        rotate_left
        ((intro wz hz; (try dsimp only at hz); go_simp) <;> with_reducible rfl)
        try simp only [Act.put, List.setIfInBounds_toArray, List.set_cons_zero, List.set_cons_succ]
        refine takeH 24 (fun _ _ _ _ _ h => h) (by kernel_rfl) hHeld rfl (by kernel_rfl) (by rfl) (v := ?_) ?_ ?_
        rotate_left
        ((intro wz hz; (try dsimp only at hz); go_simp) <;> with_reducible rfl)
        try simp only [Act.put, List.setIfInBounds_toArray, List.set_cons_zero, List.set_cons_succ]
        refine takeH 25 (fun _ _ _ _ _ h => h) (by kernel_rfl) hHeld rfl (by kernel_rfl) (by rfl) (v := ?_) ?_ ?_
        rotate_left
        ((intro wz hz; (try dsimp only at hz); go_simp) <;> with_reducible rfl)
        try simp only [Act.put, List.setIfInBounds_toArray, List.set_cons_zero, List.set_cons_succ]
        refine takeH 26 (fun _ _ _ _ _ h => h) (by kernel_rfl) hHeld rfl (by kernel_rfl) (by rfl) (v := ?_) ?_ ?_
        rotate_left
        ((intro wz hz; (try dsimp only at hz); go_simp) <;> with_reducible rfl)
        try simp only [Act.put, List.setIfInBounds_toArray, List.set_cons_zero, List.set_cons_succ]
        refine takeH 27 (fun _ _ _ _ _ h => h) (by kernel_rfl) hHeld rfl (by kernel_rfl) (by rfl) (v := ?_) ?_ ?_
        rotate_left
        ((intro wz hz; (try dsimp only at hz); go_simp) <;> with_reducible rfl)
        try simp only [Act.put, List.setIfInBounds_toArray, List.set_cons_zero, List.set_cons_succ]
        refine wpAnyH_done (by kernel_rfl) (NoPanic.normal ?_) _
        have H13 := Lib.hid hHeld.2.2.2.2.2.2.2.2.2.2
        clear hHeld
        go_wp2_with fail
        go_ret
        exact ⟨by simp, H13.out.2⟩
      · refine wp_region_noPanic ?_
        refine wp_region_held_drew (S := fun wq => wq.cell? ⟨bn, 0, none⟩ = some (.int .u64 a) ∧ wq.cell? ⟨bn, 1, none⟩ = some (.int .u64 b) ∧ wq.cell? ⟨bn, 2, none⟩ = some (.int .u64 c) ∧ wq.cell? ⟨bv, 0, none⟩ = some (.int .u64 ex) ∧ wq.cell? ⟨bv, 1, none⟩ = some (.int .u64 ey) ∧ wq.cell? ⟨bv, 2, none⟩ = some (.slice (some ⟨hs, 0, none⟩) 32 ds) ∧ wq.cell? ⟨bm, 0, none⟩ = some (.int .u64 a) ∧ wq.cell? ⟨bm, 1, none⟩ = some (.int .u64 b) ∧ wq.cell? ⟨bm, 2, none⟩ = some (.int .u64 c) ∧ (convert 42 9 (.slice (some ⟨hs, 0, none⟩) 32 ds)).run Tryd.prog wq = .ok (.string (strB B)) wq ∧ HR w wq [(bn, #[.int .u64 a, .int .u64 b, .int .u64 c], 41), (bv, #[.int .u64 ex, .int .u64 ey, .slice (some ⟨hs, 0, none⟩) 32 ds], 44), (bs, #[.int .u64 ex, .int .u64 ey, .slice (some ⟨gs, 0, none⟩) 32 cs], 44), (ba, #[.int .u64 t, .int .u64 px, .int .u64 py], 31), (bm, #[.int .u64 a, .int .u64 b, .int .u64 c], 41), (b6, #[.int .u64 v, .int .u64 o, .int .u64 r], 41), (b5, #[.int .u64 x, .int .u64 y, .slice ao len cap], 44)]) (by kernel_rfl) ?_ (fun hHeld => ?_)
        · have hq0 := HR.drew H12.out
          exact ⟨HR.cell hq0 (b := bn) (cs := #[.int .u64 a, .int .u64 b, .int .u64 c]) (t := 41) (by simp) 0 rfl, HR.cell hq0 (b := bn) (cs := #[.int .u64 a, .int .u64 b, .int .u64 c]) (t := 41) (by simp) 1 rfl, HR.cell hq0 (b := bn) (cs := #[.int .u64 a, .int .u64 b, .int .u64 c]) (t := 41) (by simp) 2 rfl, HR.cell hq0 (b := bv) (cs := #[.int .u64 ex, .int .u64 ey, .slice (some ⟨hs, 0, none⟩) 32 ds]) (t := 44) (by simp) 0 rfl, HR.cell hq0 (b := bv) (cs := #[.int .u64 ex, .int .u64 ey, .slice (some ⟨hs, 0, none⟩) 32 ds]) (t := 44) (by simp) 1 rfl, HR.cell hq0 (b := bv) (cs := #[.int .u64 ex, .int .u64 ey, .slice (some ⟨hs, 0, none⟩) 32 ds]) (t := 44) (by simp) 2 rfl, HR.cell hq0 (b := bm) (cs := #[.int .u64 a, .int .u64 b, .int .u64 c]) (t := 41) (by simp) 0 rfl, HR.cell hq0 (b := bm) (cs := #[.int .u64 a, .int .u64 b, .int .u64 c]) (t := 41) (by simp) 1 rfl, HR.cell hq0 (b := bm) (cs := #[.int .u64 a, .int .u64 b, .int .u64 c]) (t := 41) (by simp) 2 rfl, (own_conv (own_drew' O12.out)), hq0⟩
        refine takeH 0 (fun _ _ _ _ _ h => h) (by kernel_rfl) hHeld rfl (by kernel_rfl) (by rfl) (v := ?_) ?_ ?_
        rotate_left
        ((intro wz hz; (try dsimp only at hz); go_simp) <;> with_reducible rfl)
        try simp only [Act.put, List.setIfInBounds_toArray, List.set_cons_zero, List.set_cons_succ]
        refine takeH 1 (fun _ _ _ _ _ h => h) (by kernel_rfl) hHeld rfl (by kernel_rfl) (by rfl) (v := ?_) ?_ ?_
        rotate_left
        ((intro wz hz; (try dsimp only at hz); go_simp) <;> with_reducible rfl)
        try simp only [Act.put, List.setIfInBounds_toArray, List.set_cons_zero, List.set_cons_succ]
        refine takeH 2 (fun _ _ _ _ _ h => h) (by kernel_rfl) hHeld rfl (by kernel_rfl) (by rfl) (v := ?_) ?_ ?_
        rotate_left
        ((intro wz hz; (try dsimp only at hz); go_simp) <;> with_reducible rfl)
        try simp only [Act.put, List.setIfInBounds_toArray, List.set_cons_zero, List.set_cons_succ]
        refine takeH 3 (fun _ _ _ _ _ h => h) (by kernel_rfl) hHeld rfl (by kernel_rfl) (by rfl) (v := ?_) ?_ ?_
        rotate_left
        ((intro wz hz; (try dsimp only at hz); go_simp) <;> with_reducible rfl)
        try simp only [Act.put, List.setIfInBounds_toArray, List.set_cons_zero, List.set_cons_succ]
        refine takeH 4 (fun _ _ _ _ _ h => h) (by kernel_rfl) hHeld rfl (by kernel_rfl) (by rfl) (v := ?_) ?_ ?_
        rotate_left
        ((intro wz hz; (try dsimp only at hz); go_simp) <;> with_reducible rfl)
        try simp only [Act.put, List.setIfInBounds_toArray, List.set_cons_zero, List.set_cons_succ]
        refine takeH 5 (fun _ _ _ _ _ h => h) (by kernel_rfl) hHeld rfl (by kernel_rfl) (by rfl) (v := ?_) ?_ ?_
        rotate_left
        ((intro wz hz; (try dsimp only at hz); go_simp) <;> with_reducible rfl)
        try simp only [Act.put, List.setIfInBounds_toArray, List.set_cons_zero, List.set_cons_succ]
        refine takeH 6 (fun _ _ _ _ _ h => h) (by kernel_rfl) hHeld rfl (by kernel_rfl) (by rfl) (v := ?_) ?_ ?_
        rotate_left
        ((intro wz hz; (try dsimp only at hz); go_simp) <;> with_reducible rfl)
        try simp only [Act.put, List.setIfInBounds_toArray, List.set_cons_zero, List.set_cons_succ]
        refine takeH 7 (fun _ _ _ _ _ h => h) (by kernel_rfl) hHeld rfl (by kernel_rfl) (by rfl) (v := ?_) ?_ ?_
        rotate_left
        ((intro wz hz; (try dsimp only at hz); go_simp) <;> with_reducible rfl)
        try simp only [Act.put, List.setIfInBounds_toArray, List.set_cons_zero, List.set_cons_succ]
        refine takeH 8 (fun _ _ _ _ _ h => h) (by kernel_rfl) hHeld rfl (by kernel_rfl) (by rfl) (v := ?_) ?_ ?_
        rotate_left
        ((intro wz hz; (try dsimp only at hz); go_simp) <;> with_reducible rfl)
        try simp only [Act.put, List.setIfInBounds_toArray, List.set_cons_zero, List.set_cons_succ]
        refine takeH 9 (fun _ _ _ _ _ h => h) (by kernel_rfl) hHeld rfl (by kernel_rfl) (by rfl) (v := ?_) ?_ ?_
        rotate_left
        ((intro wz hz; (try dsimp only at hz); go_simp) <;> with_reducible rfl)
        try simp only [Act.put, List.setIfInBounds_toArray, List.set_cons_zero, List.set_cons_succ]
        refine takeH 10 (fun _ _ _ _ _ h => h) (by kernel_rfl) hHeld rfl (by kernel_rfl) (by rfl) (v := ?_) ?_ ?_
        rotate_left
        ((intro wz hz; (try dsimp only at hz); go_simp) <;> with_reducible rfl)
        try simp only [Act.put, List.setIfInBounds_toArray, List.set_cons_zero, List.set_cons_succ]
        refine takeH 11 (fun _ _ _ _ _ h => h) (by kernel_rfl) hHeld rfl (by kernel_rfl) (by rfl) (v := ?_) ?_ ?_
        rotate_left
        ((intro wz hz; (try dsimp only at hz); go_simp) <;> with_reducible rfl)
        try simp only [Act.put, List.setIfInBounds_toArray, List.set_cons_zero, List.set_cons_succ]
        refine takeH 12 (fun _ _ _ _ _ h => h) (by kernel_rfl) hHeld rfl (by kernel_rfl) (by rfl) (v := ?_) ?_ ?_
        rotate_left
        ((intro wz hz; (try dsimp only at hz); go_simp) <;> with_reducible rfl)
        try simp only [Act.put, List.setIfInBounds_toArray, List.set_cons_zero, List.set_cons_succ]
        refine takeH 13 (fun _ _ _ _ _ h => h) (by kernel_rfl) hHeld rfl (by kernel_rfl) (by rfl) (v := ?_) ?_ ?_
        rotate_left
        ((intro wz hz; (try dsimp only at hz); go_simp) <;> with_reducible rfl)
        try simp only [Act.put, List.setIfInBounds_toArray, List.set_cons_zero, List.set_cons_succ]
        refine takeH 14 (fun _ _ _ _ _ h => h) (by kernel_rfl) hHeld rfl (by kernel_rfl) (by rfl) (v := ?_) ?_ ?_
        rotate_left
        ((intro wz hz; (try dsimp only at hz); go_simp) <;> with_reducible rfl)
        try simp only [Act.put, List.setIfInBounds_toArray, List.set_cons_zero, List.set_cons_succ]
        refine takeH 15 (fun _ _ _ _ _ h => h) (by kernel_rfl) hHeld rfl (by kernel_rfl) (by rfl) (v := ?_) ?_ ?_
        rotate_left
        ((intro wz hz; (try dsimp only at hz); go_simp) <;> with_reducible rfl)
        try simp only [Act.put, List.setIfInBounds_toArray, List.set_cons_zero, List.set_cons_succ]
        refine takeH 16 (fun _ _ _ _ _ h => h) (by kernel_rfl) hHeld rfl (by kernel_rfl) (by rfl) (v := ?_) ?_ ?_
        rotate_left
        ((intro wz hz; (try dsimp only at hz); go_simp) <;> with_reducible rfl)
        try simp only [Act.put, List.setIfInBounds_toArray, List.set_cons_zero, List.set_cons_succ]
        refine takeH 17 (fun _ _ _ _ _ h => h) (by kernel_rfl) hHeld rfl (by kernel_rfl) (by rfl) (v := ?_) ?_ ?_
        rotate_left
        ((intro wz hz; (try dsimp only at hz); go_simp) <;> with_reducible rfl)
        try simp only [Act.put, List.setIfInBounds_toArray, List.set_cons_zero, List.set_cons_succ]
        refine takeH 18 (fun _ _ _ _ _ h => h) (by kernel_rfl) hHeld rfl (by kernel_rfl) (by rfl) (v := ?_) ?_ ?_
        rotate_left
        ((intro wz hz; (try dsimp only at hz); go_simp) <;> with_reducible rfl)
        try simp only [Act.put, List.setIfInBounds_toArray, List.set_cons_zero, List.set_cons_succ]
        refine takeH 19 (fun _ _ _ _ _ h => h) (by kernel_rfl) hHeld rfl (by kernel_rfl) (by rfl) (v := ?_) ?_ ?_
        rotate_left
        ((intro wz hz; (try dsimp only at hz); go_simp) <;> with_reducible rfl)
        try simp only [Act.put, List.setIfInBounds_toArray, List.set_cons_zero, List.set_cons_succ]
        refine takeH 20 (fun _ _ _ _ _ h => h) (by kernel_rfl) hHeld rfl (by kernel_rfl) (by rfl) (v := ?_) ?_ ?_
        rotate_left
        ((intro wz hz; (try dsimp only at hz); go_simp) <;> with_reducible rfl)
        try simp only [Act.put, List.setIfInBounds_toArray, List.set_cons_zero, List.set_cons_succ]
        refine takeH 21 (fun _ _ _ _ _ h => h) (by kernel_rfl) hHeld rfl (by kernel_rfl) (by rfl) (v := ?_) ?_ ?_
        rotate_left
        ((intro wz hz; (try dsimp only at hz); go_simp) <;> with_reducible rfl)
        try simp only [Act.put, List.setIfInBounds_toArray, List.set_cons_zero, List.set_cons_succ]
        refine takeH 22 (fun _ _ _ _ _ h => h) (by kernel_rfl) hHeld rfl (by kernel_rfl) (by rfl) (v := ?_) ?_ ?_
        rotate_left
        ((intro wz hz; (try dsimp only at hz); go_simp) <;> with_reducible rfl)
        try simp only [Act.put, List.setIfInBounds_toArray, List.set_cons_zero, List.set_cons_succ]
        refine takeH 23 (fun _ _ _ _ _ h => h) (by kernel_rfl) hHeld rfl (by kernel_rfl) (by rfl) (v := ?_) ?_ ?_
        rotate_left
        ((intro wz hz; (try dsimp only at hz); go_simp) <;> with_reducible rfl)
        try simp only [Act.put, List.setIfInBounds_toArray, List.set_cons_zero, List.set_cons_succ]
        refine takeH 24 (fun _ _ _ _ _ h => h) (by kernel_rfl) hHeld rfl (by kernel_rfl) (by rfl) (v := ?_) ?_ ?_
        rotate_left
        ((intro wz hz; (try dsimp only at hz); go_simp) <;> with_reducible rfl)
        try simp only [Act.put, List.setIfInBounds_toArray, List.set_cons_zero, List.set_cons_succ]
        refine takeH 25 (fun _ _ _ _ _ h => h) (by kernel_rfl) hHeld rfl (by kernel_rfl) (by rfl) (v := ?_) ?_ ?_
        rotate_left
        ((intro wz hz; (try dsimp only at hz); go_simp) <;> with_reducible rfl)
        try simp only [Act.put, List.setIfInBounds_toArray, List.set_cons_zero, List.set_cons_succ]
        refine takeH 26 (fun _ _ _ _ _ h => h) (by kernel_rfl) hHeld rfl (by kernel_rfl) (by rfl) (v := ?_) ?_ ?_
        rotate_left
        ((intro wz hz; (try dsimp only at hz); go_simp) <;> with_reducible rfl)
        try simp only [Act.put, List.setIfInBounds_toArray, List.set_cons_zero, List.set_cons_succ]
        refine takeH 27 (fun _ _ _ _ _ h => h) (by kernel_rfl) hHeld rfl (by kernel_rfl) (by rfl) (v := ?_) ?_ ?_
        rotate_left
        ((intro wz hz; (try dsimp only at hz); go_simp) <;> with_reducible rfl)
        try simp only [Act.put, List.setIfInBounds_toArray, List.set_cons_zero, List.set_cons_succ]
        refine wpAnyH_done (by kernel_rfl) (NoPanic.normal ?_) _
        have H13 := Lib.hid hHeld.2.2.2.2.2.2.2.2.2.2
        clear hHeld
        go_wp2_with fail
        go_ret
        exact ⟨by simp, H13.out.2⟩
theorem walkNStays (w : World) (hG : RowsAt w) (k x y : Int) (ao : Option Addr) (len cap : Nat) (L : List Nat) (H : B8 len L) (hl : len ≤ cap) (hc : cap ≤ 9223372036854775807) (hn : ao = none → len = 0 ∧ cap = 0) (hb : 0 < len → ∃ b o, ao = some ⟨b, o, none⟩ ∧ BL w b o L) (v o r e : Int) (k0 : 0 ≤ k) (k1 : k ≤ 18446744073709551615) (x0 : 0 ≤ x) (y0 : 0 ≤ y) (v0 : 0 ≤ v) (v1 : v ≤ 18446744073709551615) (o0 : 0 ≤ o) (o1 : o ≤ 18446744073709551615) (r0 : 0 ≤ r) (r1 : r ≤ 18446744073709551615) (e0 : 0 ≤ e) (e1 : e ≤ 18446744073709551615) :
    Calls Tryd.prog 7 #[.int .u64 k, .agg #[.int .u64 x, .int .u64 y, .slice ao len cap], ntV v o r, .int .u64 e] w fun e w' => e = .returned (.bool true) ∧ Below w.heap.size w w' := by
  have G := Lib.hid hG
  have S := Lib.hid (sl6 H hl hc hn hb)
  by_cases h1000 : 1000 < len
  · exact walkNStaysL w G k x y v o r e ao len cap h1000
  obtain ⟨a, b, c, E, hQ, hI⟩ := nOpenAll k x y x0 y0 len L H (by omega)
  have cA := fun W => nAddrY 77 (by omega) (by omega) W
  obtain ⟨px, py, px0, py0, pxR, pyR, hpx, hpy, -⟩ := mul_pt GP (Obol.scN (77 : Int).toNat)
  simp only [hpx, hpy] at cA
  have hA : ∀ W : World, Calls Tryd.prog 13 #[.int .u64 77] W fun e' w' => e' = .returned (.tuple #[adV ((Obol.twoN (77 : Int).toNat 2 : Nat) : Int) px py, .nilIface]) ∧ Below W.heap.size W w' := fun W => (cA W).mono (by
    rintro e' w' ⟨px', py', rfl, -, -, -, -, rfl, rfl, hb⟩
    exact ⟨rfl, hb⟩)
  have hp : (px.toNat, py.toNat) = Obol.smulN GP (Obol.scN (77 : Int).toNat) := Prod.ext (by show px.toNat = _; omega) (by show py.toNat = _; omega)
  have hIp : inN (px.toNat, py.toNat) = true := by rw [hp]; exact gp_in _
  have hNp : (px.toNat, py.toNat) ≠ (0, 1) := by rw [hp]; exact gp_ne (scN_key _).1 (scN_key _).2
  by_cases hs : mayI v o r ∧ 1 ≤ e ∧ e < 72057593894066549
  · obtain ⟨ex, ey, ex0, ey0, exR, eyR, hex, hey, -⟩ := mul_pt GP e.toNat
    refine walkNStaysG w G k x y v o r e ao len cap L (Lib.hid H) h1000 S a b c E hQ hI _ px py hA ex ey _ (Lib.hid (body_b8 (secL (Obol.smulN GP e.toNat) (Obol.smulN (px.toNat, py.toNat) e.toNat)) v.toNat r.toNat)) (fun W hW => (nSeal v o r _ px py e v0 v1 r0 r1 px0 py0 e0 e1 hs.1 (fun W => nPointT px py px0 py0 hIp hNp W) hs.2.1 hs.2.2 W hW).mono ?_)
    rintro e' w' ⟨gs, cs, ex', ey', rfl, -, -, -, -, h1, h2, hO, hb⟩
    rw [hex] at h1
    rw [hey] at h2
    subst h1 h2
    exact ⟨gs, cs, rfl, hO, hb⟩
  · exact walkNStaysB w G k x y v o r e ao len cap L (Lib.hid H) h1000 S a b c E hQ hI _ px py hA (fun W => nSealBad v o r _ px py e v0 v1 r0 r1 px0 py0 e0 e1 (fun hh => hs ⟨hh.1, hh.2.2⟩) W)

end Go.Proofs.YtallfmiikjmgaaaDoor
