import Derived.Test.YtallfmiikjmgaaaZWtim0
set_option linter.unusedVariables false
set_option linter.unusedSimpArgs false
/- Walks: package cipher: the product of two numbers in limbs (cipher.times). -/
namespace Obol
theorem mstep_lo {a r d : List Nat} {i k : Nat} (h : i + k < 5) : mstep a r d i k = d.set (i + k) (d.getD (i + k) 0 + a.getD i 0 * r.getD k 0) := if_pos h
theorem mstep_hi {a r d : List Nat} {i k : Nat} (h : ¬ i + k < 5) : mstep a r d i k = d.set (i + k - 5) (d.getD (i + k - 5) 0 + 5 * (a.getD i 0 * r.getD k 0)) := if_neg h
end Obol
namespace Go.Proofs.Ytallfmiikjmgaaa
open Go.RowKit

theorem u64w {x : Int} (h0 : 0 ≤ x) (h1 : x ≤ 18446744073709551615) : IntKind.u64.wrap x = x := by rw [IntKind.wrap_u64]; omega
theorem HR.setU {w w1 : World} {rs : List (Nat × Array Value × TypeId)} {D : Nat} {L : List Nat} {t : TypeId} (h : HR w w1 ((D, u64s L, t) :: rs)) (hne : ∀ r ∈ rs, r.1 ≠ D) (hD : w.heap.size ≤ D) (o Z : Nat) {z : Int} (hz : z = (Z : Int)) : HR w (w1.setCell ⟨D, o, none⟩ (.int .u64 z)) ((D, u64s (L.set o Z), t) :: rs) := by
  have h2 := h.put hne hD o (.int .u64 z)
  have e : (u64s L).setIfInBounds o (.int .u64 z) = u64s (L.set o Z) := by
    unfold u64s
    rw [List.setIfInBounds_toArray, List.map_set, hz]
  rw [← e]
  exact h2
theorem mul_pos {x y : Int} {X Y : Nat} (hx : ((X : Nat) : Int) = x) (hy : ((Y : Nat) : Int) = y) : x * y = ((X * Y : Nat) : Int) := by rw [← hx, ← hy, Int.natCast_mul]

set_option maxRecDepth 8000 in
set_option maxHeartbeats 16000000 in
theorem qTimes (a r : List Nat) (ha : Obol.LB 268435456 a) (hr : Obol.LB 67108863 r) (w : World) :
    Calls Try.prog 34 #[.agg (u64s a), .agg (u64s r)] w fun e w' => e = .returned (.agg (u64s (Obol.timesL a r))) ∧ Below w.heap.size w w' := by
  have HA := Lib.hid ha
  have HC := Lib.hid hr
  have hna : (u64s a).size = 5 := by rw [u64s_n, ha.len]
  have hnr : (u64s r).size = 5 := by rw [u64s_n, hr.len]
  clear ha hr
  go_enter Try.func34, Try.ntmps34
  go_upto_region 2 with fail
  have H0 := Lib.hid (((((HR.refl w).new (u64s a) 67).new (u64s r) 67).new (u64s [0, 0, 0, 0, 0]) 67).new (u64s [0, 0, 0, 0, 0]) 67)
  simp only [World.size_alloc] at H0
  change Code.wp _ _ _ _ ((((w.alloc (.cells (u64s a) 67)).alloc (.cells (u64s r) 67)).alloc (.cells (u64s [0, 0, 0, 0, 0]) 67)).alloc (.cells (u64s [0, 0, 0, 0, 0]) 67))
  generalize (((w.alloc (.cells (u64s a) 67)).alloc (.cells (u64s r) 67)).alloc (.cells (u64s [0, 0, 0, 0, 0]) 67)).alloc (.cells (u64s [0, 0, 0, 0, 0]) 67) = w1 at H0 ⊢
  obtain ⟨b5, h5⟩ : ∃ x, w.heap.size + 1 + 1 + 1 = x := ⟨_, rfl⟩
  rw [h5] at H0 ⊢
  obtain ⟨b4, h4⟩ : ∃ x, w.heap.size + 1 + 1 = x := ⟨_, rfl⟩
  rw [h4] at H0 ⊢
  obtain ⟨b3, h3⟩ : ∃ x, w.heap.size + 1 = x := ⟨_, rfl⟩
  rw [h3] at H0 ⊢
  obtain ⟨b2, h2⟩ : ∃ x, w.heap.size = x := ⟨_, rfl⟩
  have ho : Hid (w.heap.size ≤ b3 ∧ b3 < b4 ∧ b4 < b5) := Lib.hid (by omega)
  replace h3 := Lib.hid h3
  replace h4 := Lib.hid h4
  replace h5 := Lib.hid h5
  have R2 := Lib.hid (H0.out.row (b := w.heap.size) (cs := u64s a) (t := 67) (by simp))
  have H1 := Lib.hid (HR.sub (qs := [(b5, u64s (Obol.mall a r 0), 67), (b4, u64s [0, 0, 0, 0, 0], 67), (b3, u64s r, 67)]) H0.out (by simp [Obol.mall]))
  rw [h2] at R2 ⊢
  replace h2 := Lib.hid h2
  clear H0
  go_wp2_with (refine wpList_load_mid rfl _ _ rfl b2 0 rfl (u64s a).toList _ R2.out.range und5 rfl (by rw [siz5]; simp [hna]) ?_)
  rw [Array.toArray_toList]
  clear R2
  go_loopw [13] (fun q1 wr => ∃ i : Nat, q1 = .int .i64 (i : Int) ∧ i ≤ 5 ∧ Hid (HR w wr [(b5, u64s (Obol.mall a r i), 67), (b4, u64s [0, 0, 0, 0, 0], 67), (b3, u64s r, 67)])) (fun q1 _ => (5 - intOf q1).toNat)
  case atStart => exact ⟨0, rfl, by omega, H1⟩
  case round =>
    clear H1
    rename World => wr
    obtain ⟨I, rfl, hI, H⟩ := hrel
    obtain ⟨i, hi⟩ : ∃ i : Int, (I : Int) = i := ⟨_, rfl⟩
    rw [hi]
    have i0 : 0 ≤ i := by omega
    by_cases hI5 : I < 5
    · have i1 : i < 5 := by omega
      have hiI : Hid (i.toNat = I) := Lib.hid (by omega)
      have hix := fun W => index_agg5 (P := Try.prog) 67 36 5 a HA.out.len und5 undU infoU i0 (by omega) W
      obtain ⟨x, ex⟩ : ∃ x : Int, ((a.getD i.toNat 0 : Nat) : Int) = x := ⟨_, rfl⟩
      rw [ex] at hix
      have hxl := HA.out.le i.toNat
      have x0 : 0 ≤ x := by omega
      have x1 : x ≤ 268435456 := by omega
      have w5x := u64w (x := 5 * x) (by omega) (by omega)
      replace ex := Lib.hid ex
      clear hxl
      generalize hD : Obol.mall a r I = D at H
      have HD := Lib.hid (hD ▸ Obol.mall_b HA.out HC.out I)
      replace hD := Lib.hid hD
      have RR := Lib.hid (H.out.row (b := b3) (cs := u64s r) (t := 67) (by simp))
      have H1 : Hid (HR w wr [(b5, u64s (Obol.mrow a r D I 0), 67), (b4, u64s [0, 0, 0, 0, 0], 67), (b3, u64s r, 67)]) := H
      clear H
      go_wp2_with (refine wpList_load_mid rfl _ _ rfl b3 0 rfl (u64s r).toList _ RR.out.range und5 rfl (by rw [siz5]; simp [hnr]) ?_)
      rw [Array.toArray_toList]
      clear RR
      go_loopw [18] (fun q1 wr => ∃ k : Nat, q1 = .int .i64 (k : Int) ∧ k ≤ 5 ∧ Hid (HR w wr [(b5, u64s (Obol.mrow a r D I k), 67), (b4, u64s [0, 0, 0, 0, 0], 67), (b3, u64s r, 67)])) (fun q1 _ => (5 - intOf q1).toNat)
      case atStart => exact ⟨0, rfl, by omega, H1⟩
      case round =>
        clear H1
        rename World => wr
        obtain ⟨K, rfl, hK, H⟩ := hrel
        obtain ⟨k, hk⟩ : ∃ k : Int, (K : Int) = k := ⟨_, rfl⟩
        rw [hk]
        have k0 : 0 ≤ k := by omega
        by_cases hK5 : K < 5
        · have k1 : k < 5 := by omega
          have hkK : Hid (k.toNat = K) := Lib.hid (by omega)
          have hiy := fun W => index_agg5 (P := Try.prog) 67 36 5 r HC.out.len und5 undU infoU k0 (by omega) W
          obtain ⟨y, ey⟩ : ∃ y : Int, ((r.getD k.toNat 0 : Nat) : Int) = y := ⟨_, rfl⟩
          rw [ey] at hiy
          have wik := wrap_small (x := i + k) (by omega) (by omega)
          have hml := Obol.mul_le (HA.out.le i.toNat) (HC.out.le k.toNat)
          have hm := mul_pos ex.out ey
          obtain ⟨p, hp⟩ : ∃ p : Int, ((a.getD i.toNat 0 * r.getD k.toNat 0 : Nat) : Int) = p := ⟨_, rfl⟩
          rw [hp] at hm
          have p0 : 0 ≤ p := by omega
          have p1 : p ≤ 18014398241046528 := by omega
          have hm5 : 5 * x * y = 5 * p := by rw [Int.mul_assoc, hm]
          have wp := u64w (x := p) (by omega) (by omega)
          have wp5 := u64w (x := 5 * p) (by omega) (by omega)
          have hB := Obol.mrow_b HA.out HC.out HD.out I K
          have hlen := hB.len
          replace ey := Lib.hid ey
          replace hp := Lib.hid hp
          clear hml
          by_cases hlo : I + K < 5
          · have ik5 : i + k < 5 := by omega
            have ik0 : 0 ≤ i + k := by omega
            have hIK : Hid ((i + k).toNat = I + K) := Lib.hid (by omega)
            obtain ⟨v, ev⟩ : ∃ v : Int, (((Obol.mrow a r D I K).getD (i + k).toNat 0 : Nat) : Int) = v := ⟨_, rfl⟩
            have hv := hB.le (i + k).toNat
            have v0 : 0 ≤ v := by omega
            have v1 : v ≤ 4503599627370496000 := by omega
            have wv := u64w (x := v + p) (by omega) (by omega)
            have c := H.out.cell (b := b5) (cs := u64s (Obol.mrow a r D I K)) (t := 67) (by simp) (i + k).toNat (v := .int .u64 v) ((u64s_get _ (by rw [hlen]; omega)).trans (by rw [ev]))
            have f := H.out.free (b := b5) (cs := u64s (Obol.mrow a r D I K)) (t := 67) (by simp) (i + k).toNat
            have HN := HR.setU H.out (by simp; have := ho.out; omega) (by have := ho.out; omega) (i + k).toNat ((Obol.mrow a r D I K).getD (i + k).toNat 0 + a.getD i.toNat 0 * r.getD k.toNat 0) (z := v + p) (by rw [← ev, ← hp.out, Int.natCast_add])
            rw [hIK.out, hiI.out, hkK.out, ← Obol.mstep_lo hlo] at HN
            replace HN := Lib.hid HN
            clear ev hv hB hlen
            go_wp2_with fail
            go_roundw
            case rel => exact ⟨K + 1, by simp; omega, by omega, by rw [hIK.out]; exact HN⟩
            case measure => simp [intOf]; omega
          · have ik5 : ¬ i + k < 5 := by omega
            have ik0 : 0 ≤ i + k - 5 := by omega
            have ik9 : i + k - 5 < 5 := by omega
            have wik5 := wrap_small (x := i + k - 5) (by omega) (by omega)
            have hIK : Hid ((i + k - 5).toNat = I + K - 5) := Lib.hid (by omega)
            obtain ⟨v, ev⟩ : ∃ v : Int, (((Obol.mrow a r D I K).getD (i + k - 5).toNat 0 : Nat) : Int) = v := ⟨_, rfl⟩
            have hv := hB.le (i + k - 5).toNat
            have v0 : 0 ≤ v := by omega
            have v1 : v ≤ 4503599627370496000 := by omega
            have wv := u64w (x := v + 5 * p) (by omega) (by omega)
            have c := H.out.cell (b := b5) (cs := u64s (Obol.mrow a r D I K)) (t := 67) (by simp) (i + k - 5).toNat (v := .int .u64 v) ((u64s_get _ (by rw [hlen]; omega)).trans (by rw [ev]))
            have f := H.out.free (b := b5) (cs := u64s (Obol.mrow a r D I K)) (t := 67) (by simp) (i + k - 5).toNat
            have HN := HR.setU H.out (by simp; have := ho.out; omega) (by have := ho.out; omega) (i + k - 5).toNat ((Obol.mrow a r D I K).getD (i + k - 5).toNat 0 + 5 * (a.getD i.toNat 0 * r.getD k.toNat 0)) (z := v + 5 * p) (by rw [← ev, ← hp.out]; omega)
            rw [hIK.out, hiI.out, hkK.out, ← Obol.mstep_hi hlo] at HN
            replace HN := Lib.hid HN
            clear ev hv hB hlen
            go_wp2_with fail
            go_roundw
            case rel => exact ⟨K + 1, by simp; omega, by omega, by rw [hIK.out]; exact HN⟩
            case measure => simp [intOf]; omega
        · obtain rfl : K = 5 := by omega
          have k1 : ¬ k < 5 := by omega
          have HN : Hid (HR w wr [(b5, u64s (Obol.mall a r (I + 1)), 67), (b4, u64s [0, 0, 0, 0, 0], 67), (b3, u64s r, 67)]) := Lib.hid (by show HR w wr [(b5, u64s (Obol.mrow a r (Obol.mall a r I) I 5), 67), (b4, u64s [0, 0, 0, 0, 0], 67), (b3, u64s r, 67)]; rw [hD.out]; exact H.out)
          go_wp2_with fail
          go_roundw
          case rel => exact ⟨I + 1, by simp; omega, by omega, HN⟩
          case measure => simp [intOf]; omega
    · obtain rfl : I = 5 := by omega
      have i1 : ¬ i < 5 := by omega
      have HM := Lib.hid (Obol.mall_b HA.out HC.out 5)
      generalize hM : Obol.mall a r 5 = M at H HM
      replace hM := Lib.hid hM
      have H1 : Hid (HR w wr [(b5, u64s (Obol.foldN M 0), 67), (b4, u64s [0, 0, 0, 0, 0], 67), (b3, u64s r, 67)]) := H
      clear H i0 hi hna hnr
      go_wp2_with fail
      go_loopw [50] (fun q1 wr => ∃ n : Nat, q1 = .int .i64 (n : Int) ∧ n ≤ 2 ∧ Hid (HR w wr [(b5, u64s (Obol.foldN M n), 67), (b4, u64s [0, 0, 0, 0, 0], 67), (b3, u64s r, 67)])) (fun q1 _ => (2 - intOf q1).toNat)
      case atStart => exact ⟨0, rfl, by omega, H1⟩
      case round =>
        clear H1
        rename World => wr
        obtain ⟨N, rfl, hN, H⟩ := hrel
        obtain ⟨n, hn⟩ : ∃ n : Int, (N : Int) = n := ⟨_, rfl⟩
        rw [hn]
        have n0 : 0 ≤ n := by omega
        have HD := Lib.hid (Obol.foldN_b HM.out N hN)
        by_cases hN2 : N < 2
        · have n1 : n < 2 := by omega
          generalize hD : Obol.foldN M N = D at H HD
          replace hD := Lib.hid hD
          have HPB := Lib.hid (fun j => Obol.cpass_b HD.out (by omega) (by omega) j)
          have H1 : Hid (HR w wr [(b5, u64s ((Obol.cpass D 0).1), 67), (b4, u64s [0, 0, 0, 0, 0], 67), (b3, u64s r, 67)]) := H
          clear H
          go_wp2_with fail
          go_loopw [10, 52] (fun q1 q2 wr => ∃ j : Nat, q1 = .int .u64 (((Obol.cpass D j).2 : Nat) : Int) ∧ q2 = .int .i64 (j : Int) ∧ j ≤ 5 ∧ Hid (HR w wr [(b5, u64s ((Obol.cpass D j).1), 67), (b4, u64s [0, 0, 0, 0, 0], 67), (b3, u64s r, 67)])) (fun _ q2 _ => (5 - intOf q2).toNat)
          case atStart => exact ⟨0, rfl, rfl, by omega, H1⟩
          case round =>
            clear H1
            rename World => wr
            obtain ⟨J, rfl, rfl, hJ, H⟩ := hrel
            obtain ⟨j, hj⟩ : ∃ j : Int, (J : Int) = j := ⟨_, rfl⟩
            obtain ⟨s, hs⟩ : ∃ s : Int, (((Obol.cpass D J).2 : Nat) : Int) = s := ⟨_, rfl⟩
            rw [hj, hs]
            have j0 : 0 ≤ j := by omega
            have hPJ := HPB.out J
            have s0 : 0 ≤ s := by omega
            have s1 : s ≤ 50000000000 := by omega
            by_cases hJ5 : J < 5
            · have j1 : j < 5 := by omega
              have hjJ : Hid (j.toNat = J) := Lib.hid (by omega)
              obtain ⟨v, hv⟩ : ∃ v : Int, (((Obol.cpass D J).1.getD j.toNat 0 : Nat) : Int) = v := ⟨_, rfl⟩
              have hvl := hPJ.1.le j.toNat
              have hnn : N * 250000000000 ≤ 500000000000 := by omega
              have v0 : 0 ≤ v := by omega
              have v1 : v ≤ 3000000000000000000 := by omega
              have wv := u64w (x := v + s) (by omega) (by omega)
              have c := H.out.cell (b := b5) (cs := u64s ((Obol.cpass D J).1)) (t := 67) (by simp) j.toNat (v := .int .u64 v) ((u64s_get _ (by rw [hPJ.1.len]; omega)).trans (by rw [hv]))
              have f := H.out.free (b := b5) (cs := u64s ((Obol.cpass D J).1)) (t := 67) (by simp) j.toNat
              obtain ⟨u, hu⟩ : ∃ u : Int, v + s = u := ⟨_, rfl⟩
              have hU : u = (((Obol.cpass D J).1.getD j.toNat 0 + (Obol.cpass D J).2 : Nat) : Int) := by omega
              have u0 : 0 ≤ u := by omega
              have u1 : u ≤ 3000000050000000000 := by omega
              have H2 := Lib.hid (HR.setU H.out (by simp; have := ho.out; omega) (by have := ho.out; omega) j.toNat ((Obol.cpass D J).1.getD j.toNat 0 + (Obol.cpass D J).2) hU)
              replace hv := Lib.hid hv
              replace hs := Lib.hid hs
              replace hU := Lib.hid hU
              rw [hu] at wv
              go_wp2_with fail
              clear c f wv hu
              generalize wr.setCell ⟨b5, j.toNat, none⟩ (.int .u64 u) = w2 at H2 ⊢
              have c := H2.out.cell (b := b5) (cs := u64s ((Obol.cpass D J).1.set j.toNat ((Obol.cpass D J).1.getD j.toNat 0 + (Obol.cpass D J).2))) (t := 67) (by simp) j.toNat (v := .int .u64 u) ((u64s_get _ (by rw [List.length_set, hPJ.1.len]; omega)).trans (by rw [List.getD_eq_getElem?_getD, List.getElem?_set, if_pos rfl, if_pos (by rw [hPJ.1.len]; omega), hU.out]; rfl))
              have f := H2.out.free (b := b5) (cs := u64s ((Obol.cpass D J).1.set j.toNat ((Obol.cpass D J).1.getD j.toNat 0 + (Obol.cpass D J).2))) (t := 67) (by simp) j.toNat
              have hand := and_26 (n := u) u0 (by omega)
              have HN := (HR.setU H2.out (by simp; have := ho.out; omega) (by have := ho.out; omega) j.toNat (((Obol.cpass D J).1.getD j.toNat 0 + (Obol.cpass D J).2) % 67108864) (z := u % 67108864) (by rw [hU.out]; rfl)).drew
              rw [List.set_set] at HN
              have hR : Hid (u / 67108864 = (((Obol.cpass D (J + 1)).2 : Nat) : Int)) := Lib.hid (by
                show u / 67108864 = ((((Obol.cpass D J).1.getD J 0 + (Obol.cpass D J).2) / 67108864 : Nat) : Int)
                rw [hU.out, hjJ.out]; rfl)
              have HN2 := Lib.hid HN
              clear hU hvl HN
              go_region
              go_wp2_with fail
              go_roundw
              case rel => exact ⟨J + 1, by rw [← hR.out], by simp; omega, by omega, by show Hid (HR w _ [(b5, u64s ((Obol.cpass D J).1.set J (((Obol.cpass D J).1.getD J 0 + (Obol.cpass D J).2) % 67108864)), 67), (b4, u64s [0, 0, 0, 0, 0], 67), (b3, u64s r, 67)]); rw [hjJ.out] at HN2 ⊢; exact HN2⟩
              case measure => simp [intOf]; omega
            · obtain rfl : J = 5 := by omega
              have j1 : ¬ j < 5 := by omega
              obtain ⟨v, hv⟩ : ∃ v : Int, (((Obol.cpass D 5).1.getD 0 0 : Nat) : Int) = v := ⟨_, rfl⟩
              have hvl := hPJ.1.le 0
              have hnn : N * 250000000000 ≤ 500000000000 := by omega
              have v0 : 0 ≤ v := by omega
              have v1 : v ≤ 3000000000000000000 := by omega
              have w5 := u64w (x := 5 * s) (by omega) (by omega)
              have wv := u64w (x := v + 5 * s) (by omega) (by omega)
              have c := H.out.cell (b := b5) (cs := u64s ((Obol.cpass D 5).1)) (t := 67) (by simp) 0 (v := .int .u64 v) ((u64s_get _ (by rw [hPJ.1.len]; omega)).trans (by rw [hv]))
              have f := H.out.free (b := b5) (cs := u64s ((Obol.cpass D 5).1)) (t := 67) (by simp) 0
              have HN : Hid (HR w (wr.setCell ⟨b5, 0, none⟩ (.int .u64 (v + 5 * s))) [(b5, u64s (Obol.foldN M (N + 1)), 67), (b4, u64s [0, 0, 0, 0, 0], 67), (b3, u64s r, 67)]) := Lib.hid (by
                show HR w _ [(b5, u64s (Obol.fold1 (Obol.foldN M N)), 67), (b4, u64s [0, 0, 0, 0, 0], 67), (b3, u64s r, 67)]
                rw [hD.out]
                exact HR.setU H.out (by simp; have := ho.out; omega) (by have := ho.out; omega) 0 ((Obol.cpass D 5).1.getD 0 0 + 5 * (Obol.cpass D 5).2) (z := v + 5 * s) (by omega))
              replace hv := Lib.hid hv
              replace hs := Lib.hid hs
              go_wp2_with fail
              go_roundw
              case rel => exact ⟨N + 1, by simp; omega, by omega, HN⟩
              case measure => simp [intOf]; omega
        · obtain rfl : N = 2 := by omega
          have n1 : ¬ n < 2 := by omega
          have hlen := HD.out.len
          have hV : Hid (Obol.foldN M 2 = Obol.timesL a r) := Lib.hid (by show Obol.fold1 (Obol.fold1 M) = _; rw [← hM.out]; rfl)
          generalize Obol.foldN M 2 = V at H hlen hV
          have R0 := Lib.hid (H.out.row (b := b4) (cs := u64s [0, 0, 0, 0, 0]) (t := 67) (by simp))
          have R1 := Lib.hid (H.out.row (b := b5) (cs := u64s V) (t := 67) (by simp))
          have hn5 : (u64s V).size = 5 := by rw [u64s_n, hlen]
          have h1 : (u64s V).toList.toArray.all (·.oneCell') = true := by rw [Array.toArray_toList]; exact u64s_one V
          have hth : wr.there b4 0 (u64s V).toList.toArray.size := by rw [Array.toArray_toList, hn5, ← (show (u64s [0, 0, 0, 0, 0]).size = 5 from rfl)]; exact R0.out.there
          clear HD
          go_wp2_with (first | (refine wpList_load_mid rfl _ _ rfl b5 0 rfl (u64s V).toList _ R1.out.range und5 rfl (by rw [siz5]; simp [hn5]) ?_) | (refine wpList_store_mid rfl _ _ _ rfl b4 0 (u64s V).toList.toArray rfl rfl hth (by rw [siz5]; simp [hn5]) h1 ?_))
          have RZ : Row (wr.setCells b4 0 (u64s V).toList.toArray.toList) b4 (u64s V) 67 := by rw [Array.toArray_toList]; exact R0.out.store (u64s V) (by rw [hn5]; rfl)
          refine bodyPost_ret (v := .agg (u64s V)) (results_row rfl _ rfl RZ und5 rfl (by rw [siz5, hn5])) rfl ⟨by rw [hV.out], ?_⟩
          exact bSetMany (by have := ho.out; omega) _ _ _ H.out.2

end Go.Proofs.Ytallfmiikjmgaaa
