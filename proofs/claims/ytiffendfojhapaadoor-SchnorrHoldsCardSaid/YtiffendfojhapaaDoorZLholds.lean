import Derived.Lib.IfaceNeq
import Derived.Test.YtiffendfojhapaaDoorZWup9
import Derived.Test.YtiffendfojhapaaDoorZLsums
import Derived.Test.YtiffendfojhapaaDoorZLturns
set_option linter.unusedVariables false
set_option linter.unusedSimpArgs false
/- The walk of the law SchnorrHolds. -/
namespace Go.Proofs.YtiffendfojhapaaDoor
open Go.RowKit

set_option maxRecDepth 8000 in
set_option maxHeartbeats 4000000 in
theorem walkHolds (w : World) (hG : RowsAt w) (k n t : Int) (ao1 : Option Addr) (len1 cap1 : Nat) (M1 : List Nat) (Hh1 : B8 len1 M1) (hl1 : len1 ≤ cap1) (hc1 : cap1 ≤ 140737488351232) (hn1 : ao1 = none → len1 = 0 ∧ cap1 = 0) (hb1 : 0 < len1 → ∃ b o, ao1 = some ⟨b, o, none⟩ ∧ BL w b o M1) (ao2 : Option Addr) (len2 cap2 : Nat) (M2 : List Nat) (Hh2 : B8 len2 M2) (hl2 : len2 ≤ cap2) (hc2 : cap2 ≤ 140737488351232) (hn2 : ao2 = none → len2 = 0 ∧ cap2 = 0) (hb2 : 0 < len2 → ∃ b o, ao2 = some ⟨b, o, none⟩ ∧ BL w b o M2) (k0 : 0 ≤ k) (k1 : k ≤ 18446744073709551615) (n0 : 0 ≤ n) (n1 : n ≤ 18446744073709551615) (t0 : 0 ≤ t) (t1 : t ≤ 18446744073709551615) :
    Calls Tryd.prog 10 #[.int .u64 k, .int .u64 n, .int .u64 t, .slice ao1 len1 cap1, .slice ao2 len2 cap2] w fun e w' => e = .returned (.bool true) ∧ Below w.heap.size w w' := by
  have hU := Lib.hid (up9 w hG)
  have hS1 := Lib.hid (sl_of Hh1 hl1 (by omega) hn1 hb1)
  have hS2 := Lib.hid (sl_of Hh2 hl2 (by omega) hn2 hb2)
  have hG' := Lib.hid hG
  replace Hh1 := Lib.hid Hh1
  replace Hh2 := Lib.hid Hh2
  have hl1' : (len1 : Int) ≤ 140737488351232 := by omega
  have hl2' : (len2 : Int) ≤ 140737488351232 := by omega
  have hll1 : len1 ≤ 140737488351232 := by omega
  replace hll1 := Lib.hid hll1
  clear hn1 hb1 hn2 hb2 hG hc1 hc2 hl1 hl2
  by_cases hk : 1 ≤ k ∧ k < 72057593894066549
  · by_cases hn : 1 ≤ n ∧ n < 72057593894066549
    · have hKk := Lib.hid hk
      have cP := fun w => sPointY k hk.1 hk.2 w
      have hSP := Obol.smulG_S k.toNat
      have hPn := Obol.keyG_ne (k := k.toNat) (by omega) (by omega)
      have hKn := Lib.hid hn
      have cS := fun ao len cap (M : List Nat) (H : B8 len M) (hl : len ≤ 140737488351232) W (hS : SlI W.heap.size W ao cap M) (hw : Below w.heap.size w W) => sSignY k n hk.1 hk.2 hn.1 hn.2 ao len cap M H hl W hS (hG'.out.below hw)
      have hSA := Obol.smulG_S n.toNat
      have hse1 := Obol.sig_eq n.toNat (Obol.quesP (Obol.Pnt.smul n.toNat Obol.G) (Obol.Pnt.smul k.toNat Obol.G) M1) k.toNat
      have hzl1 := Obol.sigZ_lt n.toNat (Obol.quesP (Obol.Pnt.smul n.toNat Obol.G) (Obol.Pnt.smul k.toNat Obol.G) M1) k.toNat
      have hzl2 := Obol.sigZ_lt n.toNat (Obol.quesP (Obol.Pnt.smul n.toNat Obol.G) (Obol.Pnt.smul k.toNat Obol.G) M2) k.toNat
      have hte := fun h => Obol.tellS (k := k.toNat) (n := n.toNat) (by omega) (quesP_lt (Obol.Pnt.smul n.toNat Obol.G) (Obol.Pnt.smul k.toNat Obol.G) M1) (quesP_lt (Obol.Pnt.smul n.toNat Obol.G) (Obol.Pnt.smul k.toNat Obol.G) M2) h
      have htu := Obol.turn_eq k.toNat t.toNat
      have cS3 := fun (m : Int) (h1 : 1 ≤ m) (h2 : m < 72057593894066549) W (hw : Below w.heap.size w W) => sSignY m n h1 h2 hn.1 hn.2 ao1 len1 cap1 M1 Hh1.out hll1.out W (hS1.out.at hw) (hG'.out.below hw)
      have hse3 := fun m : Nat => Obol.sig_eq n.toNat (Obol.quesP (Obol.Pnt.smul n.toNat Obol.G) (Obol.Pnt.smul m Obol.G) M1) m
      have hzl3 := fun m : Nat => Obol.sigZ_lt n.toNat (Obol.quesP (Obol.Pnt.smul n.toNat Obol.G) (Obol.Pnt.smul m Obol.G) M1) m
      have hMn := fun m h1 h2 => Obol.keyG_ne (k := m) h1 h2
      have hMS := fun m => Obol.smulG_S m
      have hadl : Obol.addM 72057593894066549 k.toNat t.toNat < 72057593894066549 := Nat.mod_lt _ Obol.SM_pos
      generalize hT0 : Obol.Pnt.smul t.toNat Obol.G = T at htu
      generalize hAA : Obol.Pnt.smul n.toNat Obol.G = A at *
      generalize hPP : Obol.Pnt.smul k.toNat Obol.G = P at *
      obtain ⟨ax, ay, ax0, ay0, -, -, hvA, -⟩ := coordsN A
      obtain ⟨px, py, px0, py0, -, -, hvP, hnP⟩ := coordsN P
      have cS1 := cS ao1 len1 cap1 M1 Hh1.out hll1.out
      generalize hz10 : Obol.sigZ n.toNat (Obol.quesP A P M1) k.toNat = z10 at *
      obtain ⟨z1, hz1⟩ : ∃ z : Int, ((z10 : Nat) : Int) = z := ⟨_, rfl⟩
      have hz1n : z1.toNat = z10 := by omega
      have hnz : ¬ (px = 0 ∧ py = 1) := fun h => hPn ((zero_of hvP).2 h)
      rw [hvP] at cP
      rw [hz1, sig_of hvA] at cS1
      replace cP := Lib.hid cP
      have cS1' := Lib.hid (fun W (hw : Below w.heap.size w W) => cS1 W (hS1.out.at hw) hw)
      by_cases hl : 2000 < len1 ∨ 2000 < len2
      · clear cS cS1 cS3 hse1 hzl1 hzl2 hte htu hse3 hzl3 hMn hMS hadl hT0 hAA hPP hvA hvP hnP hz10 hz1 hz1n hnz hSA hSP hPn hk hn
        by_cases hl1 : 2000 < len1
        · have hli : (2000 : Int) < (len1 : Int) := by omega
          clear hl hl1
          go_enter Tryd.func10, Tryd.ntmps10
          go_wp2_with fail
          refine (hU.out).mono ?_
          rintro e w1 ⟨rfl, hb1⟩
          have H1 := Lib.hid (HR.next (HR.refl w) hb1)
          clear hb1
          go_wp2_with fail
          refine (cP.out _).mono ?_
          rintro e v2 ⟨rfl, hv2⟩
          have K2 := Lib.hid ((H1.out.next hv2).new #[.int .u64 px, .int .u64 py] 37)
          go_upto_region 3 with fail
          generalize v2.alloc (.cells #[.int .u64 px, .int .u64 py] 37) = u2 at K2 ⊢
          generalize v2.heap.size = b12 at K2 ⊢
          clear hv2 H1
          have c_b12_0 := K2.out.cell (b := b12) (cs := #[.int .u64 px, .int .u64 py]) (t := 37) (by simp) 0 rfl
          have c_b12_1 := K2.out.cell (b := b12) (cs := #[.int .u64 px, .int .u64 py]) (t := 37) (by simp) 1 rfl
          go_wp2_with fail
          refine (cS1'.out _ K2.out.2).mono ?_
          rintro e v3 ⟨rfl, hv3⟩
          have K3 := Lib.hid ((K2.out.next hv3).new #[.int .u64 ax, .int .u64 ay, .int .u64 z1] 44)
          clear c_b12_0 c_b12_1
          go_upto_region 4 with fail
          generalize v3.alloc (.cells #[.int .u64 ax, .int .u64 ay, .int .u64 z1] 44) = u3 at K3 ⊢
          generalize v3.heap.size = b14 at K3 ⊢
          clear hv3 K2
          have c_b14_0 := K3.out.cell (b := b14) (cs := #[.int .u64 ax, .int .u64 ay, .int .u64 z1]) (t := 44) (by simp) 0 rfl
          have c_b14_1 := K3.out.cell (b := b14) (cs := #[.int .u64 ax, .int .u64 ay, .int .u64 z1]) (t := 44) (by simp) 1 rfl
          have c_b14_2 := K3.out.cell (b := b14) (cs := #[.int .u64 ax, .int .u64 ay, .int .u64 z1]) (t := 44) (by simp) 2 rfl
          have c_b12_0 := K3.out.cell (b := b12) (cs := #[.int .u64 px, .int .u64 py]) (t := 37) (by simp) 0 rfl
          have c_b12_1 := K3.out.cell (b := b12) (cs := #[.int .u64 px, .int .u64 py]) (t := 37) (by simp) 1 rfl
          go_wp2_with fail
          go_ret
          exact ⟨rfl, K3.out.2⟩
        · have hli : (len1 : Int) ≤ 2000 := by omega
          have hlj : (2000 : Int) < (len2 : Int) := by omega
          clear hl hl1
          go_enter Tryd.func10, Tryd.ntmps10
          go_wp2_with fail
          refine (hU.out).mono ?_
          rintro e w1 ⟨rfl, hb1⟩
          have H1 := Lib.hid (HR.next (HR.refl w) hb1)
          clear hb1
          go_wp2_with fail
          refine (cP.out _).mono ?_
          rintro e v2 ⟨rfl, hv2⟩
          have K2 := Lib.hid ((H1.out.next hv2).new #[.int .u64 px, .int .u64 py] 37)
          go_upto_region 3 with fail
          generalize v2.alloc (.cells #[.int .u64 px, .int .u64 py] 37) = u2 at K2 ⊢
          generalize v2.heap.size = b12 at K2 ⊢
          clear hv2 H1
          have c_b12_0 := K2.out.cell (b := b12) (cs := #[.int .u64 px, .int .u64 py]) (t := 37) (by simp) 0 rfl
          have c_b12_1 := K2.out.cell (b := b12) (cs := #[.int .u64 px, .int .u64 py]) (t := 37) (by simp) 1 rfl
          go_wp2_with fail
          refine (cS1'.out _ K2.out.2).mono ?_
          rintro e v3 ⟨rfl, hv3⟩
          have K3 := Lib.hid ((K2.out.next hv3).new #[.int .u64 ax, .int .u64 ay, .int .u64 z1] 44)
          clear c_b12_0 c_b12_1
          go_upto_region 4 with fail
          generalize v3.alloc (.cells #[.int .u64 ax, .int .u64 ay, .int .u64 z1] 44) = u3 at K3 ⊢
          generalize v3.heap.size = b14 at K3 ⊢
          clear hv3 K2
          have c_b14_0 := K3.out.cell (b := b14) (cs := #[.int .u64 ax, .int .u64 ay, .int .u64 z1]) (t := 44) (by simp) 0 rfl
          have c_b14_1 := K3.out.cell (b := b14) (cs := #[.int .u64 ax, .int .u64 ay, .int .u64 z1]) (t := 44) (by simp) 1 rfl
          have c_b14_2 := K3.out.cell (b := b14) (cs := #[.int .u64 ax, .int .u64 ay, .int .u64 z1]) (t := 44) (by simp) 2 rfl
          have c_b12_0 := K3.out.cell (b := b12) (cs := #[.int .u64 px, .int .u64 py]) (t := 37) (by simp) 0 rfl
          have c_b12_1 := K3.out.cell (b := b12) (cs := #[.int .u64 px, .int .u64 py]) (t := 37) (by simp) 1 rfl
          go_wp2_with fail
          go_ret
          exact ⟨rfl, K3.out.2⟩
      · have hli : (len1 : Int) ≤ 2000 := by omega
        have hlj : (len2 : Int) ≤ 2000 := by omega
        have hlin : len1 ≤ 2000 := by omega
        have hljn : len2 ≤ 2000 := by omega
        clear hl
        have cS2 := cS ao2 len2 cap2 M2 Hh2.out (by omega)
        generalize hz20 : Obol.sigZ n.toNat (Obol.quesP A P M2) k.toNat = z20 at *
        obtain ⟨z2, hz2⟩ : ∃ z : Int, ((z20 : Nat) : Int) = z := ⟨_, rfl⟩
        rw [hz2, sig_of hvA] at cS2
        have cS2' := Lib.hid (fun W (hw : Below w.heap.size w W) => cS2 W (hS2.out.at hw) hw)
        have cV := Lib.hid (fun W (hw : Below w.heap.size w W) => sVerY px py ax ay z1 px0 py0 ax0 ay0 (by omega) (by omega) ao1 len1 cap1 hnz A P hvA hvP hSA hSP (by omega) M1 Hh1.out (by omega) (by rw [hz1n]; exact hse1) W (hS1.out.at hw) (hG'.out.below hw))
        have cQ1 := fun W (hw : Below w.heap.size w W) => lQues ax ay px py ax0 ay0 px0 py0 A P hvA hvP ao1 len1 cap1 M1 Hh1.out (by omega) W (hS1.out.at hw)
        have cQ2 := fun W (hw : Below w.heap.size w W) => lQues ax ay px py ax0 ay0 px0 py0 A P hvA hvP ao2 len2 cap2 M2 Hh2.out (by omega) W (hS2.out.at hw)
        have hq1l := quesP_lt A P M1
        have hq2l := quesP_lt A P M2
        generalize hq10 : Obol.quesP A P M1 = q10 at *
        generalize hq20 : Obol.quesP A P M2 = q20 at *
        obtain ⟨q1, hq1⟩ : ∃ q : Int, ((q10 : Nat) : Int) = q := ⟨_, rfl⟩
        obtain ⟨q2, hq2⟩ : ∃ q : Int, ((q20 : Nat) : Int) = q := ⟨_, rfl⟩
        rw [hq1] at cQ1
        rw [hq2] at cQ2
        have cD := fun w => r1Add 72057593894066549 q1 (72057593894066549 - q2) (by omega) (by omega) (by omega) (by omega) w
        rw [litSn, show q1.toNat = q10 by omega, show (72057593894066549 - q2).toNat = 72057593894066549 - q20 by omega] at cD
        have cZZ := fun w => r1Add 72057593894066549 z1 (72057593894066549 - z2) (by omega) (by omega) (by omega) (by omega) w
        rw [litSn, show z1.toNat = z10 by omega, show (72057593894066549 - z2).toNat = 72057593894066549 - z20 by omega] at cZZ
        generalize hd0 : Obol.addM 72057593894066549 q10 (72057593894066549 - q20) = d0 at cD hte
        generalize hzz0 : Obol.addM 72057593894066549 z10 (72057593894066549 - z20) = zz0 at cZZ hte
        obtain ⟨d, hd⟩ : ∃ q : Int, ((d0 : Nat) : Int) = q := ⟨_, rfl⟩
        obtain ⟨zz, hzz⟩ : ∃ q : Int, ((zz0 : Nat) : Int) = q := ⟨_, rfl⟩
        rw [hd] at cD
        rw [hzz] at cZZ
        have cW := fun w => r1Pow 72057593894066549 d 72057593894066547 (by omega) (by omega) (by omega) (by omega) (by omega) w
        rw [litSn, show d.toNat = d0 by omega, show (72057593894066547 : Int).toNat = 72057593894066549 - 2 from rfl] at cW
        generalize hp0 : Obol.powM 72057593894066549 d0 (72057593894066549 - 2) = p0 at cW hte
        obtain ⟨pw, hpw⟩ : ∃ q : Int, ((p0 : Nat) : Int) = q := ⟨_, rfl⟩
        rw [hpw] at cW
        have cM := fun (h : q10 ≠ q20) w => r1Mul 72057593894066549 zz pw (by omega) (by omega) (by omega) (by omega) w
        have cM' : q10 ≠ q20 → ∀ w, Calls Tryd.prog 28 #[.int .u64 72057593894066549, .int .u64 zz, .int .u64 pw] w fun e w' => e = .returned (.int .u64 k) ∧ w' = w := fun h w => by
          have h1 := cM h w
          rw [litSn, show zz.toNat = zz0 by omega, show pw.toNat = p0 by omega, hte h, Int.toNat_of_nonneg k0] at h1
          exact h1
        have sub1 : IntKind.u64.wrap (72057593894066549 - q2) = 72057593894066549 - q2 := by rw [IntKind.wrap_u64]; omega
        have sub2 : IntKind.u64.wrap (72057593894066549 - z2) = 72057593894066549 - z2 := by rw [IntKind.wrap_u64]; omega
        have hq2i : q2 < 72057593894066549 := by omega
        have hz2i : z2 < 72057593894066549 := by omega
        have hq20i : 0 ≤ q2 := by omega
        have hz20i : 0 ≤ z2 := by omega
        have hIn : inN (px.toNat, py.toNat) = true := by
          unfold inN
          rw [hnP, Obol.pt_isN, Obol.smulN_eq, Obol.of_n, hSP, Obol.zero_n]
          rfl
        have hqq : (q1 = q2) = (q10 = q20) := propext (by omega)
        have hqq' := Lib.hid hqq
        replace cQ1 := Lib.hid cQ1
        replace cQ2 := Lib.hid cQ2
        replace cD := Lib.hid cD
        replace cZZ := Lib.hid cZZ
        replace cW := Lib.hid cW
        replace cM' := Lib.hid cM'
        replace hIn := Lib.hid hIn
        clear cM hqq hpw hp0 hd hzz hd0 hzz0 hq1 hq2 hq10 hq20 hte cS2 cS1 cS hz20 hz10 hz1 hz2 hse1 hzl1 hzl2 hq1l hq2l hnP
        have hvP' := Lib.hid hvP
        have hSP' := Lib.hid hSP
        have hvA' := Lib.hid hvA
        have hSA' := Lib.hid hSA
        have hT0' := Lib.hid hT0
        have htu' := Lib.hid htu
        clear hvP hSP hvA hSA hT0 htu hPP hAA hPn hk hn hnz
        have hc3 : Hid (∀ m : Int, 1 ≤ m → m < 72057593894066549 → ∃ z3 : Int, 0 ≤ z3 ∧ z3 < 72057593894066549 ∧ Obol.Pnt.smul z3.toNat Obol.G = A.add (Obol.Pnt.smul (Obol.quesP A (Obol.Pnt.smul m.toNat Obol.G) M1) (Obol.Pnt.smul m.toNat Obol.G)) ∧
            ∀ W, Below w.heap.size w W → Calls Tryd.prog 25 #[.int .u64 m, .int .u64 n, .slice ao1 len1 cap1] W fun e w' => e = .returned (.tuple #[.agg #[.int .u64 ax, .int .u64 ay, .int .u64 z3], .nilIface]) ∧ Below W.heap.size W w') := Lib.hid (fun m h1 h2 => by
          refine ⟨((Obol.sigZ n.toNat (Obol.quesP A (Obol.Pnt.smul m.toNat Obol.G) M1) m.toNat : Nat) : Int), by omega, by have := hzl3 m.toNat; omega, by rw [Int.toNat_natCast]; exact hse3 m.toNat, fun W hw => ?_⟩
          have h := cS3 m h1 h2 W hw
          rw [sig_of hvA'.out] at h
          exact h)
        clear cS3 hse3 hzl3
        by_cases hqe : q1 = q2
        · have hqb : (q1 != q2) = false := by rw [hqe]; exact bne_self_eq_false q2
          replace hqe := Lib.hid hqe
          by_cases ht : t < 72057593894066549
          · by_cases hz : Obol.addM 72057593894066549 k.toNat t.toNat = 0
            · have hz' := Lib.hid hz
              have cO := fun w => sTpY px py t px0 py0 P hvP'.out hSP'.out t0 ht w
              rw [hT0'.out] at cO
              obtain ⟨qx, qy, -, -, -, -, hvQ, -⟩ := coordsN (P.add T)
              rw [hvQ] at cO
              replace cO := Lib.hid cO
              clear hz hvQ
              go_enter Tryd.func10, Tryd.ntmps10
              go_wp2_with fail
              refine (hU.out).mono ?_
              rintro e w1 ⟨rfl, hb1⟩
              have H1 := Lib.hid (HR.next (HR.refl w) hb1)
              clear hb1
              go_wp2_with fail
              refine (cP.out _).mono ?_
              rintro e v2 ⟨rfl, hv2⟩
              have K2 := Lib.hid ((H1.out.next hv2).new #[.int .u64 px, .int .u64 py] 37)
              go_upto_region 3 with fail
              generalize v2.alloc (.cells #[.int .u64 px, .int .u64 py] 37) = u2 at K2 ⊢
              generalize v2.heap.size = b12 at K2 ⊢
              clear hv2 H1
              have c_b12_0 := K2.out.cell (b := b12) (cs := #[.int .u64 px, .int .u64 py]) (t := 37) (by simp) 0 rfl
              have c_b12_1 := K2.out.cell (b := b12) (cs := #[.int .u64 px, .int .u64 py]) (t := 37) (by simp) 1 rfl
              go_wp2_with fail
              refine (cS1'.out _ K2.out.2).mono ?_
              rintro e v3 ⟨rfl, hv3⟩
              have K3 := Lib.hid ((K2.out.next hv3).new #[.int .u64 ax, .int .u64 ay, .int .u64 z1] 44)
              clear c_b12_0 c_b12_1
              go_upto_region 4 with fail
              generalize v3.alloc (.cells #[.int .u64 ax, .int .u64 ay, .int .u64 z1] 44) = u3 at K3 ⊢
              generalize v3.heap.size = b14 at K3 ⊢
              clear hv3 K2
              have c_b14_0 := K3.out.cell (b := b14) (cs := #[.int .u64 ax, .int .u64 ay, .int .u64 z1]) (t := 44) (by simp) 0 rfl
              have c_b14_1 := K3.out.cell (b := b14) (cs := #[.int .u64 ax, .int .u64 ay, .int .u64 z1]) (t := 44) (by simp) 1 rfl
              have c_b14_2 := K3.out.cell (b := b14) (cs := #[.int .u64 ax, .int .u64 ay, .int .u64 z1]) (t := 44) (by simp) 2 rfl
              have c_b12_0 := K3.out.cell (b := b12) (cs := #[.int .u64 px, .int .u64 py]) (t := 37) (by simp) 0 rfl
              have c_b12_1 := K3.out.cell (b := b12) (cs := #[.int .u64 px, .int .u64 py]) (t := 37) (by simp) 1 rfl
              go_wp2_with fail
              refine (cV.out _ K3.out.2).mono ?_
              rintro e v4 ⟨rfl, hv4⟩
              have K4 := Lib.hid (K3.out.next hv4)
              clear c_b14_0 c_b14_1 c_b14_2 c_b12_0 c_b12_1
              clear hv4 K3
              have c_b14_0 := K4.out.cell (b := b14) (cs := #[.int .u64 ax, .int .u64 ay, .int .u64 z1]) (t := 44) (by simp) 0 rfl
              have c_b14_1 := K4.out.cell (b := b14) (cs := #[.int .u64 ax, .int .u64 ay, .int .u64 z1]) (t := 44) (by simp) 1 rfl
              have c_b14_2 := K4.out.cell (b := b14) (cs := #[.int .u64 ax, .int .u64 ay, .int .u64 z1]) (t := 44) (by simp) 2 rfl
              have c_b12_0 := K4.out.cell (b := b12) (cs := #[.int .u64 px, .int .u64 py]) (t := 37) (by simp) 0 rfl
              have c_b12_1 := K4.out.cell (b := b12) (cs := #[.int .u64 px, .int .u64 py]) (t := 37) (by simp) 1 rfl
              go_wp2_with fail
              refine (cS2'.out _ K4.out.2).mono ?_
              rintro e v5 ⟨rfl, hv5⟩
              have K5 := Lib.hid ((K4.out.next hv5).new #[.int .u64 ax, .int .u64 ay, .int .u64 z2] 44)
              clear c_b14_0 c_b14_1 c_b14_2 c_b12_0 c_b12_1
              go_upto_region 10 with fail
              generalize v5.alloc (.cells #[.int .u64 ax, .int .u64 ay, .int .u64 z2] 44) = u5 at K5 ⊢
              generalize v5.heap.size = b17 at K5 ⊢
              clear hv5 K4
              have c_b17_0 := K5.out.cell (b := b17) (cs := #[.int .u64 ax, .int .u64 ay, .int .u64 z2]) (t := 44) (by simp) 0 rfl
              have c_b17_1 := K5.out.cell (b := b17) (cs := #[.int .u64 ax, .int .u64 ay, .int .u64 z2]) (t := 44) (by simp) 1 rfl
              have c_b17_2 := K5.out.cell (b := b17) (cs := #[.int .u64 ax, .int .u64 ay, .int .u64 z2]) (t := 44) (by simp) 2 rfl
              have c_b14_0 := K5.out.cell (b := b14) (cs := #[.int .u64 ax, .int .u64 ay, .int .u64 z1]) (t := 44) (by simp) 0 rfl
              have c_b14_1 := K5.out.cell (b := b14) (cs := #[.int .u64 ax, .int .u64 ay, .int .u64 z1]) (t := 44) (by simp) 1 rfl
              have c_b14_2 := K5.out.cell (b := b14) (cs := #[.int .u64 ax, .int .u64 ay, .int .u64 z1]) (t := 44) (by simp) 2 rfl
              have c_b12_0 := K5.out.cell (b := b12) (cs := #[.int .u64 px, .int .u64 py]) (t := 37) (by simp) 0 rfl
              have c_b12_1 := K5.out.cell (b := b12) (cs := #[.int .u64 px, .int .u64 py]) (t := 37) (by simp) 1 rfl
              go_wp2_with fail
              refine (cQ1.out _ K5.out.2).mono ?_
              rintro e v6 ⟨rfl, hv6⟩
              have K6 := Lib.hid (K5.out.next hv6)
              clear c_b17_0 c_b17_1 c_b17_2 c_b14_0 c_b14_1 c_b14_2 c_b12_0 c_b12_1
              clear hv6 K5
              have c_b17_0 := K6.out.cell (b := b17) (cs := #[.int .u64 ax, .int .u64 ay, .int .u64 z2]) (t := 44) (by simp) 0 rfl
              have c_b17_1 := K6.out.cell (b := b17) (cs := #[.int .u64 ax, .int .u64 ay, .int .u64 z2]) (t := 44) (by simp) 1 rfl
              have c_b17_2 := K6.out.cell (b := b17) (cs := #[.int .u64 ax, .int .u64 ay, .int .u64 z2]) (t := 44) (by simp) 2 rfl
              have c_b14_0 := K6.out.cell (b := b14) (cs := #[.int .u64 ax, .int .u64 ay, .int .u64 z1]) (t := 44) (by simp) 0 rfl
              have c_b14_1 := K6.out.cell (b := b14) (cs := #[.int .u64 ax, .int .u64 ay, .int .u64 z1]) (t := 44) (by simp) 1 rfl
              have c_b14_2 := K6.out.cell (b := b14) (cs := #[.int .u64 ax, .int .u64 ay, .int .u64 z1]) (t := 44) (by simp) 2 rfl
              have c_b12_0 := K6.out.cell (b := b12) (cs := #[.int .u64 px, .int .u64 py]) (t := 37) (by simp) 0 rfl
              have c_b12_1 := K6.out.cell (b := b12) (cs := #[.int .u64 px, .int .u64 py]) (t := 37) (by simp) 1 rfl
              go_wp2_with fail
              refine (cQ2.out _ K6.out.2).mono ?_
              rintro e v7 ⟨rfl, hv7⟩
              have K7 := Lib.hid (K6.out.next hv7)
              clear c_b17_0 c_b17_1 c_b17_2 c_b14_0 c_b14_1 c_b14_2 c_b12_0 c_b12_1
              clear hv7 K6
              have c_b17_0 := K7.out.cell (b := b17) (cs := #[.int .u64 ax, .int .u64 ay, .int .u64 z2]) (t := 44) (by simp) 0 rfl
              have c_b17_1 := K7.out.cell (b := b17) (cs := #[.int .u64 ax, .int .u64 ay, .int .u64 z2]) (t := 44) (by simp) 1 rfl
              have c_b17_2 := K7.out.cell (b := b17) (cs := #[.int .u64 ax, .int .u64 ay, .int .u64 z2]) (t := 44) (by simp) 2 rfl
              have c_b14_0 := K7.out.cell (b := b14) (cs := #[.int .u64 ax, .int .u64 ay, .int .u64 z1]) (t := 44) (by simp) 0 rfl
              have c_b14_1 := K7.out.cell (b := b14) (cs := #[.int .u64 ax, .int .u64 ay, .int .u64 z1]) (t := 44) (by simp) 1 rfl
              have c_b14_2 := K7.out.cell (b := b14) (cs := #[.int .u64 ax, .int .u64 ay, .int .u64 z1]) (t := 44) (by simp) 2 rfl
              have c_b12_0 := K7.out.cell (b := b12) (cs := #[.int .u64 px, .int .u64 py]) (t := 37) (by simp) 0 rfl
              have c_b12_1 := K7.out.cell (b := b12) (cs := #[.int .u64 px, .int .u64 py]) (t := 37) (by simp) 1 rfl
              go_wp2_with fail
              refine (sTurnZ k t hKk.out.1 hKk.out.2 t0 (by assumption) hz'.out _).mono ?_
              rintro e v' ⟨rfl, n8, rfl⟩
              have K8 := Lib.hid (K7.out.drewN n8)
              go_wp2_with fail
              refine (cO.out _).mono ?_
              rintro e v9 ⟨rfl, hv9⟩
              have K9 := Lib.hid ((K8.out.next hv9).new #[.int .u64 qx, .int .u64 qy] 37)
              clear c_b17_0 c_b17_1 c_b17_2 c_b14_0 c_b14_1 c_b14_2 c_b12_0 c_b12_1
              go_upto_region 21 with fail
              generalize v9.alloc (.cells #[.int .u64 qx, .int .u64 qy] 37) = u9 at K9 ⊢
              generalize v9.heap.size = b25 at K9 ⊢
              clear hv9 K8
              have c_b25_0 := K9.out.cell (b := b25) (cs := #[.int .u64 qx, .int .u64 qy]) (t := 37) (by simp) 0 rfl
              have c_b25_1 := K9.out.cell (b := b25) (cs := #[.int .u64 qx, .int .u64 qy]) (t := 37) (by simp) 1 rfl
              have c_b17_0 := K9.out.cell (b := b17) (cs := #[.int .u64 ax, .int .u64 ay, .int .u64 z2]) (t := 44) (by simp) 0 rfl
              have c_b17_1 := K9.out.cell (b := b17) (cs := #[.int .u64 ax, .int .u64 ay, .int .u64 z2]) (t := 44) (by simp) 1 rfl
              have c_b17_2 := K9.out.cell (b := b17) (cs := #[.int .u64 ax, .int .u64 ay, .int .u64 z2]) (t := 44) (by simp) 2 rfl
              have c_b14_0 := K9.out.cell (b := b14) (cs := #[.int .u64 ax, .int .u64 ay, .int .u64 z1]) (t := 44) (by simp) 0 rfl
              have c_b14_1 := K9.out.cell (b := b14) (cs := #[.int .u64 ax, .int .u64 ay, .int .u64 z1]) (t := 44) (by simp) 1 rfl
              have c_b14_2 := K9.out.cell (b := b14) (cs := #[.int .u64 ax, .int .u64 ay, .int .u64 z1]) (t := 44) (by simp) 2 rfl
              have c_b12_0 := K9.out.cell (b := b12) (cs := #[.int .u64 px, .int .u64 py]) (t := 37) (by simp) 0 rfl
              have c_b12_1 := K9.out.cell (b := b12) (cs := #[.int .u64 px, .int .u64 py]) (t := 37) (by simp) 1 rfl
              go_wp2_with fail
              go_ret
              exact ⟨rfl, K9.out.2⟩
            · have cO := fun w => sTpY px py t px0 py0 P hvP'.out hSP'.out t0 ht w
              rw [hT0'.out] at cO
              have cU := fun w => sTurnY k t hKk.out.1 hKk.out.2 t0 ht hz w
              obtain ⟨m, hm⟩ : ∃ m : Int, ((Obol.addM 72057593894066549 k.toNat t.toNat : Nat) : Int) = m := ⟨_, rfl⟩
              have hmn : m.toNat = Obol.addM 72057593894066549 k.toNat t.toNat := by omega
              obtain ⟨z3, z30, z31, z32, c3⟩ := hc3.out m (by omega) (by omega)
              have hQn := hMn m.toNat (by omega) (by omega)
              have hQS := hMS m.toNat
              rw [hmn, htu'.out] at z32 hQn hQS
              rw [hm] at cU
              generalize P.add T = Q at *
              obtain ⟨qx, qy, qx0, qy0, -, -, hvQ, -⟩ := coordsN Q
              have hnq : ¬ (qx = 0 ∧ qy = 1) := fun h => hQn ((zero_of hvQ).2 h)
              rw [hvQ] at cO
              have cV3 := Lib.hid (fun W (hw : Below w.heap.size w W) => sVerY qx qy ax ay z3 qx0 qy0 ax0 ay0 z30 (by omega) ao1 len1 cap1 hnq A Q hvA'.out hvQ hSA'.out hQS z31 M1 Hh1.out (by omega) z32 W (hS1.out.at hw) (hG'.out.below hw))
              replace c3 := Lib.hid c3
              replace cO := Lib.hid cO
              replace cU := Lib.hid cU
              clear hvQ hnq z32 hQS hQn hmn hm hz
              go_enter Tryd.func10, Tryd.ntmps10
              go_wp2_with fail
              refine (hU.out).mono ?_
              rintro e w1 ⟨rfl, hb1⟩
              have H1 := Lib.hid (HR.next (HR.refl w) hb1)
              clear hb1
              go_wp2_with fail
              refine (cP.out _).mono ?_
              rintro e v2 ⟨rfl, hv2⟩
              have K2 := Lib.hid ((H1.out.next hv2).new #[.int .u64 px, .int .u64 py] 37)
              go_upto_region 3 with fail
              generalize v2.alloc (.cells #[.int .u64 px, .int .u64 py] 37) = u2 at K2 ⊢
              generalize v2.heap.size = b12 at K2 ⊢
              clear hv2 H1
              have c_b12_0 := K2.out.cell (b := b12) (cs := #[.int .u64 px, .int .u64 py]) (t := 37) (by simp) 0 rfl
              have c_b12_1 := K2.out.cell (b := b12) (cs := #[.int .u64 px, .int .u64 py]) (t := 37) (by simp) 1 rfl
              go_wp2_with fail
              refine (cS1'.out _ K2.out.2).mono ?_
              rintro e v3 ⟨rfl, hv3⟩
              have K3 := Lib.hid ((K2.out.next hv3).new #[.int .u64 ax, .int .u64 ay, .int .u64 z1] 44)
              clear c_b12_0 c_b12_1
              go_upto_region 4 with fail
              generalize v3.alloc (.cells #[.int .u64 ax, .int .u64 ay, .int .u64 z1] 44) = u3 at K3 ⊢
              generalize v3.heap.size = b14 at K3 ⊢
              clear hv3 K2
              have c_b14_0 := K3.out.cell (b := b14) (cs := #[.int .u64 ax, .int .u64 ay, .int .u64 z1]) (t := 44) (by simp) 0 rfl
              have c_b14_1 := K3.out.cell (b := b14) (cs := #[.int .u64 ax, .int .u64 ay, .int .u64 z1]) (t := 44) (by simp) 1 rfl
              have c_b14_2 := K3.out.cell (b := b14) (cs := #[.int .u64 ax, .int .u64 ay, .int .u64 z1]) (t := 44) (by simp) 2 rfl
              have c_b12_0 := K3.out.cell (b := b12) (cs := #[.int .u64 px, .int .u64 py]) (t := 37) (by simp) 0 rfl
              have c_b12_1 := K3.out.cell (b := b12) (cs := #[.int .u64 px, .int .u64 py]) (t := 37) (by simp) 1 rfl
              go_wp2_with fail
              refine (cV.out _ K3.out.2).mono ?_
              rintro e v4 ⟨rfl, hv4⟩
              have K4 := Lib.hid (K3.out.next hv4)
              clear c_b14_0 c_b14_1 c_b14_2 c_b12_0 c_b12_1
              clear hv4 K3
              have c_b14_0 := K4.out.cell (b := b14) (cs := #[.int .u64 ax, .int .u64 ay, .int .u64 z1]) (t := 44) (by simp) 0 rfl
              have c_b14_1 := K4.out.cell (b := b14) (cs := #[.int .u64 ax, .int .u64 ay, .int .u64 z1]) (t := 44) (by simp) 1 rfl
              have c_b14_2 := K4.out.cell (b := b14) (cs := #[.int .u64 ax, .int .u64 ay, .int .u64 z1]) (t := 44) (by simp) 2 rfl
              have c_b12_0 := K4.out.cell (b := b12) (cs := #[.int .u64 px, .int .u64 py]) (t := 37) (by simp) 0 rfl
              have c_b12_1 := K4.out.cell (b := b12) (cs := #[.int .u64 px, .int .u64 py]) (t := 37) (by simp) 1 rfl
              go_wp2_with fail
              refine (cS2'.out _ K4.out.2).mono ?_
              rintro e v5 ⟨rfl, hv5⟩
              have K5 := Lib.hid ((K4.out.next hv5).new #[.int .u64 ax, .int .u64 ay, .int .u64 z2] 44)
              clear c_b14_0 c_b14_1 c_b14_2 c_b12_0 c_b12_1
              go_upto_region 10 with fail
              generalize v5.alloc (.cells #[.int .u64 ax, .int .u64 ay, .int .u64 z2] 44) = u5 at K5 ⊢
              generalize v5.heap.size = b17 at K5 ⊢
              clear hv5 K4
              have c_b17_0 := K5.out.cell (b := b17) (cs := #[.int .u64 ax, .int .u64 ay, .int .u64 z2]) (t := 44) (by simp) 0 rfl
              have c_b17_1 := K5.out.cell (b := b17) (cs := #[.int .u64 ax, .int .u64 ay, .int .u64 z2]) (t := 44) (by simp) 1 rfl
              have c_b17_2 := K5.out.cell (b := b17) (cs := #[.int .u64 ax, .int .u64 ay, .int .u64 z2]) (t := 44) (by simp) 2 rfl
              have c_b14_0 := K5.out.cell (b := b14) (cs := #[.int .u64 ax, .int .u64 ay, .int .u64 z1]) (t := 44) (by simp) 0 rfl
              have c_b14_1 := K5.out.cell (b := b14) (cs := #[.int .u64 ax, .int .u64 ay, .int .u64 z1]) (t := 44) (by simp) 1 rfl
              have c_b14_2 := K5.out.cell (b := b14) (cs := #[.int .u64 ax, .int .u64 ay, .int .u64 z1]) (t := 44) (by simp) 2 rfl
              have c_b12_0 := K5.out.cell (b := b12) (cs := #[.int .u64 px, .int .u64 py]) (t := 37) (by simp) 0 rfl
              have c_b12_1 := K5.out.cell (b := b12) (cs := #[.int .u64 px, .int .u64 py]) (t := 37) (by simp) 1 rfl
              go_wp2_with fail
              refine (cQ1.out _ K5.out.2).mono ?_
              rintro e v6 ⟨rfl, hv6⟩
              have K6 := Lib.hid (K5.out.next hv6)
              clear c_b17_0 c_b17_1 c_b17_2 c_b14_0 c_b14_1 c_b14_2 c_b12_0 c_b12_1
              clear hv6 K5
              have c_b17_0 := K6.out.cell (b := b17) (cs := #[.int .u64 ax, .int .u64 ay, .int .u64 z2]) (t := 44) (by simp) 0 rfl
              have c_b17_1 := K6.out.cell (b := b17) (cs := #[.int .u64 ax, .int .u64 ay, .int .u64 z2]) (t := 44) (by simp) 1 rfl
              have c_b17_2 := K6.out.cell (b := b17) (cs := #[.int .u64 ax, .int .u64 ay, .int .u64 z2]) (t := 44) (by simp) 2 rfl
              have c_b14_0 := K6.out.cell (b := b14) (cs := #[.int .u64 ax, .int .u64 ay, .int .u64 z1]) (t := 44) (by simp) 0 rfl
              have c_b14_1 := K6.out.cell (b := b14) (cs := #[.int .u64 ax, .int .u64 ay, .int .u64 z1]) (t := 44) (by simp) 1 rfl
              have c_b14_2 := K6.out.cell (b := b14) (cs := #[.int .u64 ax, .int .u64 ay, .int .u64 z1]) (t := 44) (by simp) 2 rfl
              have c_b12_0 := K6.out.cell (b := b12) (cs := #[.int .u64 px, .int .u64 py]) (t := 37) (by simp) 0 rfl
              have c_b12_1 := K6.out.cell (b := b12) (cs := #[.int .u64 px, .int .u64 py]) (t := 37) (by simp) 1 rfl
              go_wp2_with fail
              refine (cQ2.out _ K6.out.2).mono ?_
              rintro e v7 ⟨rfl, hv7⟩
              have K7 := Lib.hid (K6.out.next hv7)
              clear c_b17_0 c_b17_1 c_b17_2 c_b14_0 c_b14_1 c_b14_2 c_b12_0 c_b12_1
              clear hv7 K6
              have c_b17_0 := K7.out.cell (b := b17) (cs := #[.int .u64 ax, .int .u64 ay, .int .u64 z2]) (t := 44) (by simp) 0 rfl
              have c_b17_1 := K7.out.cell (b := b17) (cs := #[.int .u64 ax, .int .u64 ay, .int .u64 z2]) (t := 44) (by simp) 1 rfl
              have c_b17_2 := K7.out.cell (b := b17) (cs := #[.int .u64 ax, .int .u64 ay, .int .u64 z2]) (t := 44) (by simp) 2 rfl
              have c_b14_0 := K7.out.cell (b := b14) (cs := #[.int .u64 ax, .int .u64 ay, .int .u64 z1]) (t := 44) (by simp) 0 rfl
              have c_b14_1 := K7.out.cell (b := b14) (cs := #[.int .u64 ax, .int .u64 ay, .int .u64 z1]) (t := 44) (by simp) 1 rfl
              have c_b14_2 := K7.out.cell (b := b14) (cs := #[.int .u64 ax, .int .u64 ay, .int .u64 z1]) (t := 44) (by simp) 2 rfl
              have c_b12_0 := K7.out.cell (b := b12) (cs := #[.int .u64 px, .int .u64 py]) (t := 37) (by simp) 0 rfl
              have c_b12_1 := K7.out.cell (b := b12) (cs := #[.int .u64 px, .int .u64 py]) (t := 37) (by simp) 1 rfl
              go_wp2_with fail
              refine (cU.out _).mono ?_
              rintro e v' ⟨rfl, n8, rfl⟩
              have K8 := Lib.hid (K7.out.drewN n8)
              go_wp2_with fail
              refine (cO.out _).mono ?_
              rintro e v9 ⟨rfl, hv9⟩
              have K9 := Lib.hid ((K8.out.next hv9).new #[.int .u64 qx, .int .u64 qy] 37)
              clear c_b17_0 c_b17_1 c_b17_2 c_b14_0 c_b14_1 c_b14_2 c_b12_0 c_b12_1
              go_upto_region 21 with fail
              generalize v9.alloc (.cells #[.int .u64 qx, .int .u64 qy] 37) = u9 at K9 ⊢
              generalize v9.heap.size = b25 at K9 ⊢
              clear hv9 K8
              have c_b25_0 := K9.out.cell (b := b25) (cs := #[.int .u64 qx, .int .u64 qy]) (t := 37) (by simp) 0 rfl
              have c_b25_1 := K9.out.cell (b := b25) (cs := #[.int .u64 qx, .int .u64 qy]) (t := 37) (by simp) 1 rfl
              have c_b17_0 := K9.out.cell (b := b17) (cs := #[.int .u64 ax, .int .u64 ay, .int .u64 z2]) (t := 44) (by simp) 0 rfl
              have c_b17_1 := K9.out.cell (b := b17) (cs := #[.int .u64 ax, .int .u64 ay, .int .u64 z2]) (t := 44) (by simp) 1 rfl
              have c_b17_2 := K9.out.cell (b := b17) (cs := #[.int .u64 ax, .int .u64 ay, .int .u64 z2]) (t := 44) (by simp) 2 rfl
              have c_b14_0 := K9.out.cell (b := b14) (cs := #[.int .u64 ax, .int .u64 ay, .int .u64 z1]) (t := 44) (by simp) 0 rfl
              have c_b14_1 := K9.out.cell (b := b14) (cs := #[.int .u64 ax, .int .u64 ay, .int .u64 z1]) (t := 44) (by simp) 1 rfl
              have c_b14_2 := K9.out.cell (b := b14) (cs := #[.int .u64 ax, .int .u64 ay, .int .u64 z1]) (t := 44) (by simp) 2 rfl
              have c_b12_0 := K9.out.cell (b := b12) (cs := #[.int .u64 px, .int .u64 py]) (t := 37) (by simp) 0 rfl
              have c_b12_1 := K9.out.cell (b := b12) (cs := #[.int .u64 px, .int .u64 py]) (t := 37) (by simp) 1 rfl
              go_wp2_with fail
              refine (c3.out _ K9.out.2).mono ?_
              rintro e v10 ⟨rfl, hv10⟩
              have K10 := Lib.hid ((K9.out.next hv10).new #[.int .u64 ax, .int .u64 ay, .int .u64 z3] 44)
              clear c_b25_0 c_b25_1 c_b17_0 c_b17_1 c_b17_2 c_b14_0 c_b14_1 c_b14_2 c_b12_0 c_b12_1
              go_upto_region 24 with fail
              generalize v10.alloc (.cells #[.int .u64 ax, .int .u64 ay, .int .u64 z3] 44) = u10 at K10 ⊢
              generalize v10.heap.size = b27 at K10 ⊢
              clear hv10 K9
              have c_b27_0 := K10.out.cell (b := b27) (cs := #[.int .u64 ax, .int .u64 ay, .int .u64 z3]) (t := 44) (by simp) 0 rfl
              have c_b27_1 := K10.out.cell (b := b27) (cs := #[.int .u64 ax, .int .u64 ay, .int .u64 z3]) (t := 44) (by simp) 1 rfl
              have c_b27_2 := K10.out.cell (b := b27) (cs := #[.int .u64 ax, .int .u64 ay, .int .u64 z3]) (t := 44) (by simp) 2 rfl
              have c_b25_0 := K10.out.cell (b := b25) (cs := #[.int .u64 qx, .int .u64 qy]) (t := 37) (by simp) 0 rfl
              have c_b25_1 := K10.out.cell (b := b25) (cs := #[.int .u64 qx, .int .u64 qy]) (t := 37) (by simp) 1 rfl
              have c_b17_0 := K10.out.cell (b := b17) (cs := #[.int .u64 ax, .int .u64 ay, .int .u64 z2]) (t := 44) (by simp) 0 rfl
              have c_b17_1 := K10.out.cell (b := b17) (cs := #[.int .u64 ax, .int .u64 ay, .int .u64 z2]) (t := 44) (by simp) 1 rfl
              have c_b17_2 := K10.out.cell (b := b17) (cs := #[.int .u64 ax, .int .u64 ay, .int .u64 z2]) (t := 44) (by simp) 2 rfl
              have c_b14_0 := K10.out.cell (b := b14) (cs := #[.int .u64 ax, .int .u64 ay, .int .u64 z1]) (t := 44) (by simp) 0 rfl
              have c_b14_1 := K10.out.cell (b := b14) (cs := #[.int .u64 ax, .int .u64 ay, .int .u64 z1]) (t := 44) (by simp) 1 rfl
              have c_b14_2 := K10.out.cell (b := b14) (cs := #[.int .u64 ax, .int .u64 ay, .int .u64 z1]) (t := 44) (by simp) 2 rfl
              have c_b12_0 := K10.out.cell (b := b12) (cs := #[.int .u64 px, .int .u64 py]) (t := 37) (by simp) 0 rfl
              have c_b12_1 := K10.out.cell (b := b12) (cs := #[.int .u64 px, .int .u64 py]) (t := 37) (by simp) 1 rfl
              go_wp2_with fail
              refine (cV3.out _ K10.out.2).mono ?_
              rintro e v11 ⟨rfl, hv11⟩
              have K11 := Lib.hid (K10.out.next hv11)
              clear c_b27_0 c_b27_1 c_b27_2 c_b25_0 c_b25_1 c_b17_0 c_b17_1 c_b17_2 c_b14_0 c_b14_1 c_b14_2 c_b12_0 c_b12_1
              clear hv11 K10
              have c_b27_0 := K11.out.cell (b := b27) (cs := #[.int .u64 ax, .int .u64 ay, .int .u64 z3]) (t := 44) (by simp) 0 rfl
              have c_b27_1 := K11.out.cell (b := b27) (cs := #[.int .u64 ax, .int .u64 ay, .int .u64 z3]) (t := 44) (by simp) 1 rfl
              have c_b27_2 := K11.out.cell (b := b27) (cs := #[.int .u64 ax, .int .u64 ay, .int .u64 z3]) (t := 44) (by simp) 2 rfl
              have c_b25_0 := K11.out.cell (b := b25) (cs := #[.int .u64 qx, .int .u64 qy]) (t := 37) (by simp) 0 rfl
              have c_b25_1 := K11.out.cell (b := b25) (cs := #[.int .u64 qx, .int .u64 qy]) (t := 37) (by simp) 1 rfl
              have c_b17_0 := K11.out.cell (b := b17) (cs := #[.int .u64 ax, .int .u64 ay, .int .u64 z2]) (t := 44) (by simp) 0 rfl
              have c_b17_1 := K11.out.cell (b := b17) (cs := #[.int .u64 ax, .int .u64 ay, .int .u64 z2]) (t := 44) (by simp) 1 rfl
              have c_b17_2 := K11.out.cell (b := b17) (cs := #[.int .u64 ax, .int .u64 ay, .int .u64 z2]) (t := 44) (by simp) 2 rfl
              have c_b14_0 := K11.out.cell (b := b14) (cs := #[.int .u64 ax, .int .u64 ay, .int .u64 z1]) (t := 44) (by simp) 0 rfl
              have c_b14_1 := K11.out.cell (b := b14) (cs := #[.int .u64 ax, .int .u64 ay, .int .u64 z1]) (t := 44) (by simp) 1 rfl
              have c_b14_2 := K11.out.cell (b := b14) (cs := #[.int .u64 ax, .int .u64 ay, .int .u64 z1]) (t := 44) (by simp) 2 rfl
              have c_b12_0 := K11.out.cell (b := b12) (cs := #[.int .u64 px, .int .u64 py]) (t := 37) (by simp) 0 rfl
              have c_b12_1 := K11.out.cell (b := b12) (cs := #[.int .u64 px, .int .u64 py]) (t := 37) (by simp) 1 rfl
              go_wp2_with fail
              go_ret
              exact ⟨rfl, K11.out.2⟩
          · have ht' : 72057593894066549 ≤ t := by omega
            go_enter Tryd.func10, Tryd.ntmps10
            go_wp2_with fail
            refine (hU.out).mono ?_
            rintro e w1 ⟨rfl, hb1⟩
            have H1 := Lib.hid (HR.next (HR.refl w) hb1)
            clear hb1
            go_wp2_with fail
            refine (cP.out _).mono ?_
            rintro e v2 ⟨rfl, hv2⟩
            have K2 := Lib.hid ((H1.out.next hv2).new #[.int .u64 px, .int .u64 py] 37)
            go_upto_region 3 with fail
            generalize v2.alloc (.cells #[.int .u64 px, .int .u64 py] 37) = u2 at K2 ⊢
            generalize v2.heap.size = b12 at K2 ⊢
            clear hv2 H1
            have c_b12_0 := K2.out.cell (b := b12) (cs := #[.int .u64 px, .int .u64 py]) (t := 37) (by simp) 0 rfl
            have c_b12_1 := K2.out.cell (b := b12) (cs := #[.int .u64 px, .int .u64 py]) (t := 37) (by simp) 1 rfl
            go_wp2_with fail
            refine (cS1'.out _ K2.out.2).mono ?_
            rintro e v3 ⟨rfl, hv3⟩
            have K3 := Lib.hid ((K2.out.next hv3).new #[.int .u64 ax, .int .u64 ay, .int .u64 z1] 44)
            clear c_b12_0 c_b12_1
            go_upto_region 4 with fail
            generalize v3.alloc (.cells #[.int .u64 ax, .int .u64 ay, .int .u64 z1] 44) = u3 at K3 ⊢
            generalize v3.heap.size = b14 at K3 ⊢
            clear hv3 K2
            have c_b14_0 := K3.out.cell (b := b14) (cs := #[.int .u64 ax, .int .u64 ay, .int .u64 z1]) (t := 44) (by simp) 0 rfl
            have c_b14_1 := K3.out.cell (b := b14) (cs := #[.int .u64 ax, .int .u64 ay, .int .u64 z1]) (t := 44) (by simp) 1 rfl
            have c_b14_2 := K3.out.cell (b := b14) (cs := #[.int .u64 ax, .int .u64 ay, .int .u64 z1]) (t := 44) (by simp) 2 rfl
            have c_b12_0 := K3.out.cell (b := b12) (cs := #[.int .u64 px, .int .u64 py]) (t := 37) (by simp) 0 rfl
            have c_b12_1 := K3.out.cell (b := b12) (cs := #[.int .u64 px, .int .u64 py]) (t := 37) (by simp) 1 rfl
            go_wp2_with fail
            refine (cV.out _ K3.out.2).mono ?_
            rintro e v4 ⟨rfl, hv4⟩
            have K4 := Lib.hid (K3.out.next hv4)
            clear c_b14_0 c_b14_1 c_b14_2 c_b12_0 c_b12_1
            clear hv4 K3
            have c_b14_0 := K4.out.cell (b := b14) (cs := #[.int .u64 ax, .int .u64 ay, .int .u64 z1]) (t := 44) (by simp) 0 rfl
            have c_b14_1 := K4.out.cell (b := b14) (cs := #[.int .u64 ax, .int .u64 ay, .int .u64 z1]) (t := 44) (by simp) 1 rfl
            have c_b14_2 := K4.out.cell (b := b14) (cs := #[.int .u64 ax, .int .u64 ay, .int .u64 z1]) (t := 44) (by simp) 2 rfl
            have c_b12_0 := K4.out.cell (b := b12) (cs := #[.int .u64 px, .int .u64 py]) (t := 37) (by simp) 0 rfl
            have c_b12_1 := K4.out.cell (b := b12) (cs := #[.int .u64 px, .int .u64 py]) (t := 37) (by simp) 1 rfl
            go_wp2_with fail
            refine (cS2'.out _ K4.out.2).mono ?_
            rintro e v5 ⟨rfl, hv5⟩
            have K5 := Lib.hid ((K4.out.next hv5).new #[.int .u64 ax, .int .u64 ay, .int .u64 z2] 44)
            clear c_b14_0 c_b14_1 c_b14_2 c_b12_0 c_b12_1
            go_upto_region 10 with fail
            generalize v5.alloc (.cells #[.int .u64 ax, .int .u64 ay, .int .u64 z2] 44) = u5 at K5 ⊢
            generalize v5.heap.size = b17 at K5 ⊢
            clear hv5 K4
            have c_b17_0 := K5.out.cell (b := b17) (cs := #[.int .u64 ax, .int .u64 ay, .int .u64 z2]) (t := 44) (by simp) 0 rfl
            have c_b17_1 := K5.out.cell (b := b17) (cs := #[.int .u64 ax, .int .u64 ay, .int .u64 z2]) (t := 44) (by simp) 1 rfl
            have c_b17_2 := K5.out.cell (b := b17) (cs := #[.int .u64 ax, .int .u64 ay, .int .u64 z2]) (t := 44) (by simp) 2 rfl
            have c_b14_0 := K5.out.cell (b := b14) (cs := #[.int .u64 ax, .int .u64 ay, .int .u64 z1]) (t := 44) (by simp) 0 rfl
            have c_b14_1 := K5.out.cell (b := b14) (cs := #[.int .u64 ax, .int .u64 ay, .int .u64 z1]) (t := 44) (by simp) 1 rfl
            have c_b14_2 := K5.out.cell (b := b14) (cs := #[.int .u64 ax, .int .u64 ay, .int .u64 z1]) (t := 44) (by simp) 2 rfl
            have c_b12_0 := K5.out.cell (b := b12) (cs := #[.int .u64 px, .int .u64 py]) (t := 37) (by simp) 0 rfl
            have c_b12_1 := K5.out.cell (b := b12) (cs := #[.int .u64 px, .int .u64 py]) (t := 37) (by simp) 1 rfl
            go_wp2_with fail
            refine (cQ1.out _ K5.out.2).mono ?_
            rintro e v6 ⟨rfl, hv6⟩
            have K6 := Lib.hid (K5.out.next hv6)
            clear c_b17_0 c_b17_1 c_b17_2 c_b14_0 c_b14_1 c_b14_2 c_b12_0 c_b12_1
            clear hv6 K5
            have c_b17_0 := K6.out.cell (b := b17) (cs := #[.int .u64 ax, .int .u64 ay, .int .u64 z2]) (t := 44) (by simp) 0 rfl
            have c_b17_1 := K6.out.cell (b := b17) (cs := #[.int .u64 ax, .int .u64 ay, .int .u64 z2]) (t := 44) (by simp) 1 rfl
            have c_b17_2 := K6.out.cell (b := b17) (cs := #[.int .u64 ax, .int .u64 ay, .int .u64 z2]) (t := 44) (by simp) 2 rfl
            have c_b14_0 := K6.out.cell (b := b14) (cs := #[.int .u64 ax, .int .u64 ay, .int .u64 z1]) (t := 44) (by simp) 0 rfl
            have c_b14_1 := K6.out.cell (b := b14) (cs := #[.int .u64 ax, .int .u64 ay, .int .u64 z1]) (t := 44) (by simp) 1 rfl
            have c_b14_2 := K6.out.cell (b := b14) (cs := #[.int .u64 ax, .int .u64 ay, .int .u64 z1]) (t := 44) (by simp) 2 rfl
            have c_b12_0 := K6.out.cell (b := b12) (cs := #[.int .u64 px, .int .u64 py]) (t := 37) (by simp) 0 rfl
            have c_b12_1 := K6.out.cell (b := b12) (cs := #[.int .u64 px, .int .u64 py]) (t := 37) (by simp) 1 rfl
            go_wp2_with fail
            refine (cQ2.out _ K6.out.2).mono ?_
            rintro e v7 ⟨rfl, hv7⟩
            have K7 := Lib.hid (K6.out.next hv7)
            clear c_b17_0 c_b17_1 c_b17_2 c_b14_0 c_b14_1 c_b14_2 c_b12_0 c_b12_1
            clear hv7 K6
            have c_b17_0 := K7.out.cell (b := b17) (cs := #[.int .u64 ax, .int .u64 ay, .int .u64 z2]) (t := 44) (by simp) 0 rfl
            have c_b17_1 := K7.out.cell (b := b17) (cs := #[.int .u64 ax, .int .u64 ay, .int .u64 z2]) (t := 44) (by simp) 1 rfl
            have c_b17_2 := K7.out.cell (b := b17) (cs := #[.int .u64 ax, .int .u64 ay, .int .u64 z2]) (t := 44) (by simp) 2 rfl
            have c_b14_0 := K7.out.cell (b := b14) (cs := #[.int .u64 ax, .int .u64 ay, .int .u64 z1]) (t := 44) (by simp) 0 rfl
            have c_b14_1 := K7.out.cell (b := b14) (cs := #[.int .u64 ax, .int .u64 ay, .int .u64 z1]) (t := 44) (by simp) 1 rfl
            have c_b14_2 := K7.out.cell (b := b14) (cs := #[.int .u64 ax, .int .u64 ay, .int .u64 z1]) (t := 44) (by simp) 2 rfl
            have c_b12_0 := K7.out.cell (b := b12) (cs := #[.int .u64 px, .int .u64 py]) (t := 37) (by simp) 0 rfl
            have c_b12_1 := K7.out.cell (b := b12) (cs := #[.int .u64 px, .int .u64 py]) (t := 37) (by simp) 1 rfl
            go_wp2_with fail
            refine (sTurnT k t hKk.out.1 hKk.out.2 (by assumption) _).mono ?_
            rintro e v' ⟨rfl, rfl⟩
            go_wp2_with fail
            refine (sTpT px py t px0 py0 hIn.out (by assumption) _).mono ?_
            rintro e v8 ⟨rfl, hv8⟩
            have K8 := Lib.hid ((K7.out.next hv8).new #[.int .u64 0, .int .u64 0] 37)
            clear c_b17_0 c_b17_1 c_b17_2 c_b14_0 c_b14_1 c_b14_2 c_b12_0 c_b12_1
            go_upto_region 21 with fail
            generalize v8.alloc (.cells #[.int .u64 0, .int .u64 0] 37) = u8 at K8 ⊢
            generalize v8.heap.size = b25 at K8 ⊢
            clear hv8 K7
            have c_b25_0 := K8.out.cell (b := b25) (cs := #[.int .u64 0, .int .u64 0]) (t := 37) (by simp) 0 rfl
            have c_b25_1 := K8.out.cell (b := b25) (cs := #[.int .u64 0, .int .u64 0]) (t := 37) (by simp) 1 rfl
            have c_b17_0 := K8.out.cell (b := b17) (cs := #[.int .u64 ax, .int .u64 ay, .int .u64 z2]) (t := 44) (by simp) 0 rfl
            have c_b17_1 := K8.out.cell (b := b17) (cs := #[.int .u64 ax, .int .u64 ay, .int .u64 z2]) (t := 44) (by simp) 1 rfl
            have c_b17_2 := K8.out.cell (b := b17) (cs := #[.int .u64 ax, .int .u64 ay, .int .u64 z2]) (t := 44) (by simp) 2 rfl
            have c_b14_0 := K8.out.cell (b := b14) (cs := #[.int .u64 ax, .int .u64 ay, .int .u64 z1]) (t := 44) (by simp) 0 rfl
            have c_b14_1 := K8.out.cell (b := b14) (cs := #[.int .u64 ax, .int .u64 ay, .int .u64 z1]) (t := 44) (by simp) 1 rfl
            have c_b14_2 := K8.out.cell (b := b14) (cs := #[.int .u64 ax, .int .u64 ay, .int .u64 z1]) (t := 44) (by simp) 2 rfl
            have c_b12_0 := K8.out.cell (b := b12) (cs := #[.int .u64 px, .int .u64 py]) (t := 37) (by simp) 0 rfl
            have c_b12_1 := K8.out.cell (b := b12) (cs := #[.int .u64 px, .int .u64 py]) (t := 37) (by simp) 1 rfl
            go_wp2_with fail
            go_ret
            exact ⟨rfl, K8.out.2⟩
        · have hqb : (q1 != q2) = true := bne_iff_ne.2 hqe
          have hq0n := Lib.hid (fun h => hqe (hqq'.out.mpr h) : q10 ≠ q20)
          replace hqe := Lib.hid hqe
          by_cases ht : t < 72057593894066549
          · by_cases hz : Obol.addM 72057593894066549 k.toNat t.toNat = 0
            · have hz' := Lib.hid hz
              have cO := fun w => sTpY px py t px0 py0 P hvP'.out hSP'.out t0 ht w
              rw [hT0'.out] at cO
              obtain ⟨qx, qy, -, -, -, -, hvQ, -⟩ := coordsN (P.add T)
              rw [hvQ] at cO
              replace cO := Lib.hid cO
              clear hz hvQ
              go_enter Tryd.func10, Tryd.ntmps10
              go_wp2_with fail
              refine (hU.out).mono ?_
              rintro e w1 ⟨rfl, hb1⟩
              have H1 := Lib.hid (HR.next (HR.refl w) hb1)
              clear hb1
              go_wp2_with fail
              refine (cP.out _).mono ?_
              rintro e v2 ⟨rfl, hv2⟩
              have K2 := Lib.hid ((H1.out.next hv2).new #[.int .u64 px, .int .u64 py] 37)
              go_upto_region 3 with fail
              generalize v2.alloc (.cells #[.int .u64 px, .int .u64 py] 37) = u2 at K2 ⊢
              generalize v2.heap.size = b12 at K2 ⊢
              clear hv2 H1
              have c_b12_0 := K2.out.cell (b := b12) (cs := #[.int .u64 px, .int .u64 py]) (t := 37) (by simp) 0 rfl
              have c_b12_1 := K2.out.cell (b := b12) (cs := #[.int .u64 px, .int .u64 py]) (t := 37) (by simp) 1 rfl
              go_wp2_with fail
              refine (cS1'.out _ K2.out.2).mono ?_
              rintro e v3 ⟨rfl, hv3⟩
              have K3 := Lib.hid ((K2.out.next hv3).new #[.int .u64 ax, .int .u64 ay, .int .u64 z1] 44)
              clear c_b12_0 c_b12_1
              go_upto_region 4 with fail
              generalize v3.alloc (.cells #[.int .u64 ax, .int .u64 ay, .int .u64 z1] 44) = u3 at K3 ⊢
              generalize v3.heap.size = b14 at K3 ⊢
              clear hv3 K2
              have c_b14_0 := K3.out.cell (b := b14) (cs := #[.int .u64 ax, .int .u64 ay, .int .u64 z1]) (t := 44) (by simp) 0 rfl
              have c_b14_1 := K3.out.cell (b := b14) (cs := #[.int .u64 ax, .int .u64 ay, .int .u64 z1]) (t := 44) (by simp) 1 rfl
              have c_b14_2 := K3.out.cell (b := b14) (cs := #[.int .u64 ax, .int .u64 ay, .int .u64 z1]) (t := 44) (by simp) 2 rfl
              have c_b12_0 := K3.out.cell (b := b12) (cs := #[.int .u64 px, .int .u64 py]) (t := 37) (by simp) 0 rfl
              have c_b12_1 := K3.out.cell (b := b12) (cs := #[.int .u64 px, .int .u64 py]) (t := 37) (by simp) 1 rfl
              go_wp2_with fail
              refine (cV.out _ K3.out.2).mono ?_
              rintro e v4 ⟨rfl, hv4⟩
              have K4 := Lib.hid (K3.out.next hv4)
              clear c_b14_0 c_b14_1 c_b14_2 c_b12_0 c_b12_1
              clear hv4 K3
              have c_b14_0 := K4.out.cell (b := b14) (cs := #[.int .u64 ax, .int .u64 ay, .int .u64 z1]) (t := 44) (by simp) 0 rfl
              have c_b14_1 := K4.out.cell (b := b14) (cs := #[.int .u64 ax, .int .u64 ay, .int .u64 z1]) (t := 44) (by simp) 1 rfl
              have c_b14_2 := K4.out.cell (b := b14) (cs := #[.int .u64 ax, .int .u64 ay, .int .u64 z1]) (t := 44) (by simp) 2 rfl
              have c_b12_0 := K4.out.cell (b := b12) (cs := #[.int .u64 px, .int .u64 py]) (t := 37) (by simp) 0 rfl
              have c_b12_1 := K4.out.cell (b := b12) (cs := #[.int .u64 px, .int .u64 py]) (t := 37) (by simp) 1 rfl
              go_wp2_with fail
              refine (cS2'.out _ K4.out.2).mono ?_
              rintro e v5 ⟨rfl, hv5⟩
              have K5 := Lib.hid ((K4.out.next hv5).new #[.int .u64 ax, .int .u64 ay, .int .u64 z2] 44)
              clear c_b14_0 c_b14_1 c_b14_2 c_b12_0 c_b12_1
              go_upto_region 10 with fail
              generalize v5.alloc (.cells #[.int .u64 ax, .int .u64 ay, .int .u64 z2] 44) = u5 at K5 ⊢
              generalize v5.heap.size = b17 at K5 ⊢
              clear hv5 K4
              have c_b17_0 := K5.out.cell (b := b17) (cs := #[.int .u64 ax, .int .u64 ay, .int .u64 z2]) (t := 44) (by simp) 0 rfl
              have c_b17_1 := K5.out.cell (b := b17) (cs := #[.int .u64 ax, .int .u64 ay, .int .u64 z2]) (t := 44) (by simp) 1 rfl
              have c_b17_2 := K5.out.cell (b := b17) (cs := #[.int .u64 ax, .int .u64 ay, .int .u64 z2]) (t := 44) (by simp) 2 rfl
              have c_b14_0 := K5.out.cell (b := b14) (cs := #[.int .u64 ax, .int .u64 ay, .int .u64 z1]) (t := 44) (by simp) 0 rfl
              have c_b14_1 := K5.out.cell (b := b14) (cs := #[.int .u64 ax, .int .u64 ay, .int .u64 z1]) (t := 44) (by simp) 1 rfl
              have c_b14_2 := K5.out.cell (b := b14) (cs := #[.int .u64 ax, .int .u64 ay, .int .u64 z1]) (t := 44) (by simp) 2 rfl
              have c_b12_0 := K5.out.cell (b := b12) (cs := #[.int .u64 px, .int .u64 py]) (t := 37) (by simp) 0 rfl
              have c_b12_1 := K5.out.cell (b := b12) (cs := #[.int .u64 px, .int .u64 py]) (t := 37) (by simp) 1 rfl
              go_wp2_with fail
              refine (cQ1.out _ K5.out.2).mono ?_
              rintro e v6 ⟨rfl, hv6⟩
              have K6 := Lib.hid (K5.out.next hv6)
              clear c_b17_0 c_b17_1 c_b17_2 c_b14_0 c_b14_1 c_b14_2 c_b12_0 c_b12_1
              clear hv6 K5
              have c_b17_0 := K6.out.cell (b := b17) (cs := #[.int .u64 ax, .int .u64 ay, .int .u64 z2]) (t := 44) (by simp) 0 rfl
              have c_b17_1 := K6.out.cell (b := b17) (cs := #[.int .u64 ax, .int .u64 ay, .int .u64 z2]) (t := 44) (by simp) 1 rfl
              have c_b17_2 := K6.out.cell (b := b17) (cs := #[.int .u64 ax, .int .u64 ay, .int .u64 z2]) (t := 44) (by simp) 2 rfl
              have c_b14_0 := K6.out.cell (b := b14) (cs := #[.int .u64 ax, .int .u64 ay, .int .u64 z1]) (t := 44) (by simp) 0 rfl
              have c_b14_1 := K6.out.cell (b := b14) (cs := #[.int .u64 ax, .int .u64 ay, .int .u64 z1]) (t := 44) (by simp) 1 rfl
              have c_b14_2 := K6.out.cell (b := b14) (cs := #[.int .u64 ax, .int .u64 ay, .int .u64 z1]) (t := 44) (by simp) 2 rfl
              have c_b12_0 := K6.out.cell (b := b12) (cs := #[.int .u64 px, .int .u64 py]) (t := 37) (by simp) 0 rfl
              have c_b12_1 := K6.out.cell (b := b12) (cs := #[.int .u64 px, .int .u64 py]) (t := 37) (by simp) 1 rfl
              go_wp2_with fail
              refine (cQ2.out _ K6.out.2).mono ?_
              rintro e v7 ⟨rfl, hv7⟩
              have K7 := Lib.hid (K6.out.next hv7)
              clear c_b17_0 c_b17_1 c_b17_2 c_b14_0 c_b14_1 c_b14_2 c_b12_0 c_b12_1
              clear hv7 K6
              have c_b17_0 := K7.out.cell (b := b17) (cs := #[.int .u64 ax, .int .u64 ay, .int .u64 z2]) (t := 44) (by simp) 0 rfl
              have c_b17_1 := K7.out.cell (b := b17) (cs := #[.int .u64 ax, .int .u64 ay, .int .u64 z2]) (t := 44) (by simp) 1 rfl
              have c_b17_2 := K7.out.cell (b := b17) (cs := #[.int .u64 ax, .int .u64 ay, .int .u64 z2]) (t := 44) (by simp) 2 rfl
              have c_b14_0 := K7.out.cell (b := b14) (cs := #[.int .u64 ax, .int .u64 ay, .int .u64 z1]) (t := 44) (by simp) 0 rfl
              have c_b14_1 := K7.out.cell (b := b14) (cs := #[.int .u64 ax, .int .u64 ay, .int .u64 z1]) (t := 44) (by simp) 1 rfl
              have c_b14_2 := K7.out.cell (b := b14) (cs := #[.int .u64 ax, .int .u64 ay, .int .u64 z1]) (t := 44) (by simp) 2 rfl
              have c_b12_0 := K7.out.cell (b := b12) (cs := #[.int .u64 px, .int .u64 py]) (t := 37) (by simp) 0 rfl
              have c_b12_1 := K7.out.cell (b := b12) (cs := #[.int .u64 px, .int .u64 py]) (t := 37) (by simp) 1 rfl
              go_wp2_with fail
              refine (cD.out _).mono ?_
              rintro e v' ⟨rfl, rfl⟩
              go_wp2_with fail
              refine (cZZ.out _).mono ?_
              rintro e v' ⟨rfl, rfl⟩
              go_wp2_with fail
              refine (cW.out _).mono ?_
              rintro e v' ⟨rfl, rfl⟩
              go_wp2_with fail
              refine (cM'.out hq0n.out _).mono ?_
              rintro e v' ⟨rfl, rfl⟩
              go_wp2_with fail
              refine (sTurnZ k t hKk.out.1 hKk.out.2 t0 (by assumption) hz'.out _).mono ?_
              rintro e v' ⟨rfl, n8, rfl⟩
              have K8 := Lib.hid (K7.out.drewN n8)
              go_wp2_with fail
              refine (cO.out _).mono ?_
              rintro e v9 ⟨rfl, hv9⟩
              have K9 := Lib.hid ((K8.out.next hv9).new #[.int .u64 qx, .int .u64 qy] 37)
              clear c_b17_0 c_b17_1 c_b17_2 c_b14_0 c_b14_1 c_b14_2 c_b12_0 c_b12_1
              go_upto_region 21 with fail
              generalize v9.alloc (.cells #[.int .u64 qx, .int .u64 qy] 37) = u9 at K9 ⊢
              generalize v9.heap.size = b25 at K9 ⊢
              clear hv9 K8
              have c_b25_0 := K9.out.cell (b := b25) (cs := #[.int .u64 qx, .int .u64 qy]) (t := 37) (by simp) 0 rfl
              have c_b25_1 := K9.out.cell (b := b25) (cs := #[.int .u64 qx, .int .u64 qy]) (t := 37) (by simp) 1 rfl
              have c_b17_0 := K9.out.cell (b := b17) (cs := #[.int .u64 ax, .int .u64 ay, .int .u64 z2]) (t := 44) (by simp) 0 rfl
              have c_b17_1 := K9.out.cell (b := b17) (cs := #[.int .u64 ax, .int .u64 ay, .int .u64 z2]) (t := 44) (by simp) 1 rfl
              have c_b17_2 := K9.out.cell (b := b17) (cs := #[.int .u64 ax, .int .u64 ay, .int .u64 z2]) (t := 44) (by simp) 2 rfl
              have c_b14_0 := K9.out.cell (b := b14) (cs := #[.int .u64 ax, .int .u64 ay, .int .u64 z1]) (t := 44) (by simp) 0 rfl
              have c_b14_1 := K9.out.cell (b := b14) (cs := #[.int .u64 ax, .int .u64 ay, .int .u64 z1]) (t := 44) (by simp) 1 rfl
              have c_b14_2 := K9.out.cell (b := b14) (cs := #[.int .u64 ax, .int .u64 ay, .int .u64 z1]) (t := 44) (by simp) 2 rfl
              have c_b12_0 := K9.out.cell (b := b12) (cs := #[.int .u64 px, .int .u64 py]) (t := 37) (by simp) 0 rfl
              have c_b12_1 := K9.out.cell (b := b12) (cs := #[.int .u64 px, .int .u64 py]) (t := 37) (by simp) 1 rfl
              go_wp2_with fail
              go_ret
              exact ⟨rfl, K9.out.2⟩
            · have cO := fun w => sTpY px py t px0 py0 P hvP'.out hSP'.out t0 ht w
              rw [hT0'.out] at cO
              have cU := fun w => sTurnY k t hKk.out.1 hKk.out.2 t0 ht hz w
              obtain ⟨m, hm⟩ : ∃ m : Int, ((Obol.addM 72057593894066549 k.toNat t.toNat : Nat) : Int) = m := ⟨_, rfl⟩
              have hmn : m.toNat = Obol.addM 72057593894066549 k.toNat t.toNat := by omega
              obtain ⟨z3, z30, z31, z32, c3⟩ := hc3.out m (by omega) (by omega)
              have hQn := hMn m.toNat (by omega) (by omega)
              have hQS := hMS m.toNat
              rw [hmn, htu'.out] at z32 hQn hQS
              rw [hm] at cU
              generalize P.add T = Q at *
              obtain ⟨qx, qy, qx0, qy0, -, -, hvQ, -⟩ := coordsN Q
              have hnq : ¬ (qx = 0 ∧ qy = 1) := fun h => hQn ((zero_of hvQ).2 h)
              rw [hvQ] at cO
              have cV3 := Lib.hid (fun W (hw : Below w.heap.size w W) => sVerY qx qy ax ay z3 qx0 qy0 ax0 ay0 z30 (by omega) ao1 len1 cap1 hnq A Q hvA'.out hvQ hSA'.out hQS z31 M1 Hh1.out (by omega) z32 W (hS1.out.at hw) (hG'.out.below hw))
              replace c3 := Lib.hid c3
              replace cO := Lib.hid cO
              replace cU := Lib.hid cU
              clear hvQ hnq z32 hQS hQn hmn hm hz
              go_enter Tryd.func10, Tryd.ntmps10
              go_wp2_with fail
              refine (hU.out).mono ?_
              rintro e w1 ⟨rfl, hb1⟩
              have H1 := Lib.hid (HR.next (HR.refl w) hb1)
              clear hb1
              go_wp2_with fail
              refine (cP.out _).mono ?_
              rintro e v2 ⟨rfl, hv2⟩
              have K2 := Lib.hid ((H1.out.next hv2).new #[.int .u64 px, .int .u64 py] 37)
              go_upto_region 3 with fail
              generalize v2.alloc (.cells #[.int .u64 px, .int .u64 py] 37) = u2 at K2 ⊢
              generalize v2.heap.size = b12 at K2 ⊢
              clear hv2 H1
              have c_b12_0 := K2.out.cell (b := b12) (cs := #[.int .u64 px, .int .u64 py]) (t := 37) (by simp) 0 rfl
              have c_b12_1 := K2.out.cell (b := b12) (cs := #[.int .u64 px, .int .u64 py]) (t := 37) (by simp) 1 rfl
              go_wp2_with fail
              refine (cS1'.out _ K2.out.2).mono ?_
              rintro e v3 ⟨rfl, hv3⟩
              have K3 := Lib.hid ((K2.out.next hv3).new #[.int .u64 ax, .int .u64 ay, .int .u64 z1] 44)
              clear c_b12_0 c_b12_1
              go_upto_region 4 with fail
              generalize v3.alloc (.cells #[.int .u64 ax, .int .u64 ay, .int .u64 z1] 44) = u3 at K3 ⊢
              generalize v3.heap.size = b14 at K3 ⊢
              clear hv3 K2
              have c_b14_0 := K3.out.cell (b := b14) (cs := #[.int .u64 ax, .int .u64 ay, .int .u64 z1]) (t := 44) (by simp) 0 rfl
              have c_b14_1 := K3.out.cell (b := b14) (cs := #[.int .u64 ax, .int .u64 ay, .int .u64 z1]) (t := 44) (by simp) 1 rfl
              have c_b14_2 := K3.out.cell (b := b14) (cs := #[.int .u64 ax, .int .u64 ay, .int .u64 z1]) (t := 44) (by simp) 2 rfl
              have c_b12_0 := K3.out.cell (b := b12) (cs := #[.int .u64 px, .int .u64 py]) (t := 37) (by simp) 0 rfl
              have c_b12_1 := K3.out.cell (b := b12) (cs := #[.int .u64 px, .int .u64 py]) (t := 37) (by simp) 1 rfl
              go_wp2_with fail
              refine (cV.out _ K3.out.2).mono ?_
              rintro e v4 ⟨rfl, hv4⟩
              have K4 := Lib.hid (K3.out.next hv4)
              clear c_b14_0 c_b14_1 c_b14_2 c_b12_0 c_b12_1
              clear hv4 K3
              have c_b14_0 := K4.out.cell (b := b14) (cs := #[.int .u64 ax, .int .u64 ay, .int .u64 z1]) (t := 44) (by simp) 0 rfl
              have c_b14_1 := K4.out.cell (b := b14) (cs := #[.int .u64 ax, .int .u64 ay, .int .u64 z1]) (t := 44) (by simp) 1 rfl
              have c_b14_2 := K4.out.cell (b := b14) (cs := #[.int .u64 ax, .int .u64 ay, .int .u64 z1]) (t := 44) (by simp) 2 rfl
              have c_b12_0 := K4.out.cell (b := b12) (cs := #[.int .u64 px, .int .u64 py]) (t := 37) (by simp) 0 rfl
              have c_b12_1 := K4.out.cell (b := b12) (cs := #[.int .u64 px, .int .u64 py]) (t := 37) (by simp) 1 rfl
              go_wp2_with fail
              refine (cS2'.out _ K4.out.2).mono ?_
              rintro e v5 ⟨rfl, hv5⟩
              have K5 := Lib.hid ((K4.out.next hv5).new #[.int .u64 ax, .int .u64 ay, .int .u64 z2] 44)
              clear c_b14_0 c_b14_1 c_b14_2 c_b12_0 c_b12_1
              go_upto_region 10 with fail
              generalize v5.alloc (.cells #[.int .u64 ax, .int .u64 ay, .int .u64 z2] 44) = u5 at K5 ⊢
              generalize v5.heap.size = b17 at K5 ⊢
              clear hv5 K4
              have c_b17_0 := K5.out.cell (b := b17) (cs := #[.int .u64 ax, .int .u64 ay, .int .u64 z2]) (t := 44) (by simp) 0 rfl
              have c_b17_1 := K5.out.cell (b := b17) (cs := #[.int .u64 ax, .int .u64 ay, .int .u64 z2]) (t := 44) (by simp) 1 rfl
              have c_b17_2 := K5.out.cell (b := b17) (cs := #[.int .u64 ax, .int .u64 ay, .int .u64 z2]) (t := 44) (by simp) 2 rfl
              have c_b14_0 := K5.out.cell (b := b14) (cs := #[.int .u64 ax, .int .u64 ay, .int .u64 z1]) (t := 44) (by simp) 0 rfl
              have c_b14_1 := K5.out.cell (b := b14) (cs := #[.int .u64 ax, .int .u64 ay, .int .u64 z1]) (t := 44) (by simp) 1 rfl
              have c_b14_2 := K5.out.cell (b := b14) (cs := #[.int .u64 ax, .int .u64 ay, .int .u64 z1]) (t := 44) (by simp) 2 rfl
              have c_b12_0 := K5.out.cell (b := b12) (cs := #[.int .u64 px, .int .u64 py]) (t := 37) (by simp) 0 rfl
              have c_b12_1 := K5.out.cell (b := b12) (cs := #[.int .u64 px, .int .u64 py]) (t := 37) (by simp) 1 rfl
              go_wp2_with fail
              refine (cQ1.out _ K5.out.2).mono ?_
              rintro e v6 ⟨rfl, hv6⟩
              have K6 := Lib.hid (K5.out.next hv6)
              clear c_b17_0 c_b17_1 c_b17_2 c_b14_0 c_b14_1 c_b14_2 c_b12_0 c_b12_1
              clear hv6 K5
              have c_b17_0 := K6.out.cell (b := b17) (cs := #[.int .u64 ax, .int .u64 ay, .int .u64 z2]) (t := 44) (by simp) 0 rfl
              have c_b17_1 := K6.out.cell (b := b17) (cs := #[.int .u64 ax, .int .u64 ay, .int .u64 z2]) (t := 44) (by simp) 1 rfl
              have c_b17_2 := K6.out.cell (b := b17) (cs := #[.int .u64 ax, .int .u64 ay, .int .u64 z2]) (t := 44) (by simp) 2 rfl
              have c_b14_0 := K6.out.cell (b := b14) (cs := #[.int .u64 ax, .int .u64 ay, .int .u64 z1]) (t := 44) (by simp) 0 rfl
              have c_b14_1 := K6.out.cell (b := b14) (cs := #[.int .u64 ax, .int .u64 ay, .int .u64 z1]) (t := 44) (by simp) 1 rfl
              have c_b14_2 := K6.out.cell (b := b14) (cs := #[.int .u64 ax, .int .u64 ay, .int .u64 z1]) (t := 44) (by simp) 2 rfl
              have c_b12_0 := K6.out.cell (b := b12) (cs := #[.int .u64 px, .int .u64 py]) (t := 37) (by simp) 0 rfl
              have c_b12_1 := K6.out.cell (b := b12) (cs := #[.int .u64 px, .int .u64 py]) (t := 37) (by simp) 1 rfl
              go_wp2_with fail
              refine (cQ2.out _ K6.out.2).mono ?_
              rintro e v7 ⟨rfl, hv7⟩
              have K7 := Lib.hid (K6.out.next hv7)
              clear c_b17_0 c_b17_1 c_b17_2 c_b14_0 c_b14_1 c_b14_2 c_b12_0 c_b12_1
              clear hv7 K6
              have c_b17_0 := K7.out.cell (b := b17) (cs := #[.int .u64 ax, .int .u64 ay, .int .u64 z2]) (t := 44) (by simp) 0 rfl
              have c_b17_1 := K7.out.cell (b := b17) (cs := #[.int .u64 ax, .int .u64 ay, .int .u64 z2]) (t := 44) (by simp) 1 rfl
              have c_b17_2 := K7.out.cell (b := b17) (cs := #[.int .u64 ax, .int .u64 ay, .int .u64 z2]) (t := 44) (by simp) 2 rfl
              have c_b14_0 := K7.out.cell (b := b14) (cs := #[.int .u64 ax, .int .u64 ay, .int .u64 z1]) (t := 44) (by simp) 0 rfl
              have c_b14_1 := K7.out.cell (b := b14) (cs := #[.int .u64 ax, .int .u64 ay, .int .u64 z1]) (t := 44) (by simp) 1 rfl
              have c_b14_2 := K7.out.cell (b := b14) (cs := #[.int .u64 ax, .int .u64 ay, .int .u64 z1]) (t := 44) (by simp) 2 rfl
              have c_b12_0 := K7.out.cell (b := b12) (cs := #[.int .u64 px, .int .u64 py]) (t := 37) (by simp) 0 rfl
              have c_b12_1 := K7.out.cell (b := b12) (cs := #[.int .u64 px, .int .u64 py]) (t := 37) (by simp) 1 rfl
              go_wp2_with fail
              refine (cD.out _).mono ?_
              rintro e v' ⟨rfl, rfl⟩
              go_wp2_with fail
              refine (cZZ.out _).mono ?_
              rintro e v' ⟨rfl, rfl⟩
              go_wp2_with fail
              refine (cW.out _).mono ?_
              rintro e v' ⟨rfl, rfl⟩
              go_wp2_with fail
              refine (cM'.out hq0n.out _).mono ?_
              rintro e v' ⟨rfl, rfl⟩
              go_wp2_with fail
              refine (cU.out _).mono ?_
              rintro e v' ⟨rfl, n8, rfl⟩
              have K8 := Lib.hid (K7.out.drewN n8)
              go_wp2_with fail
              refine (cO.out _).mono ?_
              rintro e v9 ⟨rfl, hv9⟩
              have K9 := Lib.hid ((K8.out.next hv9).new #[.int .u64 qx, .int .u64 qy] 37)
              clear c_b17_0 c_b17_1 c_b17_2 c_b14_0 c_b14_1 c_b14_2 c_b12_0 c_b12_1
              go_upto_region 21 with fail
              generalize v9.alloc (.cells #[.int .u64 qx, .int .u64 qy] 37) = u9 at K9 ⊢
              generalize v9.heap.size = b25 at K9 ⊢
              clear hv9 K8
              have c_b25_0 := K9.out.cell (b := b25) (cs := #[.int .u64 qx, .int .u64 qy]) (t := 37) (by simp) 0 rfl
              have c_b25_1 := K9.out.cell (b := b25) (cs := #[.int .u64 qx, .int .u64 qy]) (t := 37) (by simp) 1 rfl
              have c_b17_0 := K9.out.cell (b := b17) (cs := #[.int .u64 ax, .int .u64 ay, .int .u64 z2]) (t := 44) (by simp) 0 rfl
              have c_b17_1 := K9.out.cell (b := b17) (cs := #[.int .u64 ax, .int .u64 ay, .int .u64 z2]) (t := 44) (by simp) 1 rfl
              have c_b17_2 := K9.out.cell (b := b17) (cs := #[.int .u64 ax, .int .u64 ay, .int .u64 z2]) (t := 44) (by simp) 2 rfl
              have c_b14_0 := K9.out.cell (b := b14) (cs := #[.int .u64 ax, .int .u64 ay, .int .u64 z1]) (t := 44) (by simp) 0 rfl
              have c_b14_1 := K9.out.cell (b := b14) (cs := #[.int .u64 ax, .int .u64 ay, .int .u64 z1]) (t := 44) (by simp) 1 rfl
              have c_b14_2 := K9.out.cell (b := b14) (cs := #[.int .u64 ax, .int .u64 ay, .int .u64 z1]) (t := 44) (by simp) 2 rfl
              have c_b12_0 := K9.out.cell (b := b12) (cs := #[.int .u64 px, .int .u64 py]) (t := 37) (by simp) 0 rfl
              have c_b12_1 := K9.out.cell (b := b12) (cs := #[.int .u64 px, .int .u64 py]) (t := 37) (by simp) 1 rfl
              go_wp2_with fail
              refine (c3.out _ K9.out.2).mono ?_
              rintro e v10 ⟨rfl, hv10⟩
              have K10 := Lib.hid ((K9.out.next hv10).new #[.int .u64 ax, .int .u64 ay, .int .u64 z3] 44)
              clear c_b25_0 c_b25_1 c_b17_0 c_b17_1 c_b17_2 c_b14_0 c_b14_1 c_b14_2 c_b12_0 c_b12_1
              go_upto_region 24 with fail
              generalize v10.alloc (.cells #[.int .u64 ax, .int .u64 ay, .int .u64 z3] 44) = u10 at K10 ⊢
              generalize v10.heap.size = b27 at K10 ⊢
              clear hv10 K9
              have c_b27_0 := K10.out.cell (b := b27) (cs := #[.int .u64 ax, .int .u64 ay, .int .u64 z3]) (t := 44) (by simp) 0 rfl
              have c_b27_1 := K10.out.cell (b := b27) (cs := #[.int .u64 ax, .int .u64 ay, .int .u64 z3]) (t := 44) (by simp) 1 rfl
              have c_b27_2 := K10.out.cell (b := b27) (cs := #[.int .u64 ax, .int .u64 ay, .int .u64 z3]) (t := 44) (by simp) 2 rfl
              have c_b25_0 := K10.out.cell (b := b25) (cs := #[.int .u64 qx, .int .u64 qy]) (t := 37) (by simp) 0 rfl
              have c_b25_1 := K10.out.cell (b := b25) (cs := #[.int .u64 qx, .int .u64 qy]) (t := 37) (by simp) 1 rfl
              have c_b17_0 := K10.out.cell (b := b17) (cs := #[.int .u64 ax, .int .u64 ay, .int .u64 z2]) (t := 44) (by simp) 0 rfl
              have c_b17_1 := K10.out.cell (b := b17) (cs := #[.int .u64 ax, .int .u64 ay, .int .u64 z2]) (t := 44) (by simp) 1 rfl
              have c_b17_2 := K10.out.cell (b := b17) (cs := #[.int .u64 ax, .int .u64 ay, .int .u64 z2]) (t := 44) (by simp) 2 rfl
              have c_b14_0 := K10.out.cell (b := b14) (cs := #[.int .u64 ax, .int .u64 ay, .int .u64 z1]) (t := 44) (by simp) 0 rfl
              have c_b14_1 := K10.out.cell (b := b14) (cs := #[.int .u64 ax, .int .u64 ay, .int .u64 z1]) (t := 44) (by simp) 1 rfl
              have c_b14_2 := K10.out.cell (b := b14) (cs := #[.int .u64 ax, .int .u64 ay, .int .u64 z1]) (t := 44) (by simp) 2 rfl
              have c_b12_0 := K10.out.cell (b := b12) (cs := #[.int .u64 px, .int .u64 py]) (t := 37) (by simp) 0 rfl
              have c_b12_1 := K10.out.cell (b := b12) (cs := #[.int .u64 px, .int .u64 py]) (t := 37) (by simp) 1 rfl
              go_wp2_with fail
              refine (cV3.out _ K10.out.2).mono ?_
              rintro e v11 ⟨rfl, hv11⟩
              have K11 := Lib.hid (K10.out.next hv11)
              clear c_b27_0 c_b27_1 c_b27_2 c_b25_0 c_b25_1 c_b17_0 c_b17_1 c_b17_2 c_b14_0 c_b14_1 c_b14_2 c_b12_0 c_b12_1
              clear hv11 K10
              have c_b27_0 := K11.out.cell (b := b27) (cs := #[.int .u64 ax, .int .u64 ay, .int .u64 z3]) (t := 44) (by simp) 0 rfl
              have c_b27_1 := K11.out.cell (b := b27) (cs := #[.int .u64 ax, .int .u64 ay, .int .u64 z3]) (t := 44) (by simp) 1 rfl
              have c_b27_2 := K11.out.cell (b := b27) (cs := #[.int .u64 ax, .int .u64 ay, .int .u64 z3]) (t := 44) (by simp) 2 rfl
              have c_b25_0 := K11.out.cell (b := b25) (cs := #[.int .u64 qx, .int .u64 qy]) (t := 37) (by simp) 0 rfl
              have c_b25_1 := K11.out.cell (b := b25) (cs := #[.int .u64 qx, .int .u64 qy]) (t := 37) (by simp) 1 rfl
              have c_b17_0 := K11.out.cell (b := b17) (cs := #[.int .u64 ax, .int .u64 ay, .int .u64 z2]) (t := 44) (by simp) 0 rfl
              have c_b17_1 := K11.out.cell (b := b17) (cs := #[.int .u64 ax, .int .u64 ay, .int .u64 z2]) (t := 44) (by simp) 1 rfl
              have c_b17_2 := K11.out.cell (b := b17) (cs := #[.int .u64 ax, .int .u64 ay, .int .u64 z2]) (t := 44) (by simp) 2 rfl
              have c_b14_0 := K11.out.cell (b := b14) (cs := #[.int .u64 ax, .int .u64 ay, .int .u64 z1]) (t := 44) (by simp) 0 rfl
              have c_b14_1 := K11.out.cell (b := b14) (cs := #[.int .u64 ax, .int .u64 ay, .int .u64 z1]) (t := 44) (by simp) 1 rfl
              have c_b14_2 := K11.out.cell (b := b14) (cs := #[.int .u64 ax, .int .u64 ay, .int .u64 z1]) (t := 44) (by simp) 2 rfl
              have c_b12_0 := K11.out.cell (b := b12) (cs := #[.int .u64 px, .int .u64 py]) (t := 37) (by simp) 0 rfl
              have c_b12_1 := K11.out.cell (b := b12) (cs := #[.int .u64 px, .int .u64 py]) (t := 37) (by simp) 1 rfl
              go_wp2_with fail
              go_ret
              exact ⟨rfl, K11.out.2⟩
          · have ht' : 72057593894066549 ≤ t := by omega
            go_enter Tryd.func10, Tryd.ntmps10
            go_wp2_with fail
            refine (hU.out).mono ?_
            rintro e w1 ⟨rfl, hb1⟩
            have H1 := Lib.hid (HR.next (HR.refl w) hb1)
            clear hb1
            go_wp2_with fail
            refine (cP.out _).mono ?_
            rintro e v2 ⟨rfl, hv2⟩
            have K2 := Lib.hid ((H1.out.next hv2).new #[.int .u64 px, .int .u64 py] 37)
            go_upto_region 3 with fail
            generalize v2.alloc (.cells #[.int .u64 px, .int .u64 py] 37) = u2 at K2 ⊢
            generalize v2.heap.size = b12 at K2 ⊢
            clear hv2 H1
            have c_b12_0 := K2.out.cell (b := b12) (cs := #[.int .u64 px, .int .u64 py]) (t := 37) (by simp) 0 rfl
            have c_b12_1 := K2.out.cell (b := b12) (cs := #[.int .u64 px, .int .u64 py]) (t := 37) (by simp) 1 rfl
            go_wp2_with fail
            refine (cS1'.out _ K2.out.2).mono ?_
            rintro e v3 ⟨rfl, hv3⟩
            have K3 := Lib.hid ((K2.out.next hv3).new #[.int .u64 ax, .int .u64 ay, .int .u64 z1] 44)
            clear c_b12_0 c_b12_1
            go_upto_region 4 with fail
            generalize v3.alloc (.cells #[.int .u64 ax, .int .u64 ay, .int .u64 z1] 44) = u3 at K3 ⊢
            generalize v3.heap.size = b14 at K3 ⊢
            clear hv3 K2
            have c_b14_0 := K3.out.cell (b := b14) (cs := #[.int .u64 ax, .int .u64 ay, .int .u64 z1]) (t := 44) (by simp) 0 rfl
            have c_b14_1 := K3.out.cell (b := b14) (cs := #[.int .u64 ax, .int .u64 ay, .int .u64 z1]) (t := 44) (by simp) 1 rfl
            have c_b14_2 := K3.out.cell (b := b14) (cs := #[.int .u64 ax, .int .u64 ay, .int .u64 z1]) (t := 44) (by simp) 2 rfl
            have c_b12_0 := K3.out.cell (b := b12) (cs := #[.int .u64 px, .int .u64 py]) (t := 37) (by simp) 0 rfl
            have c_b12_1 := K3.out.cell (b := b12) (cs := #[.int .u64 px, .int .u64 py]) (t := 37) (by simp) 1 rfl
            go_wp2_with fail
            refine (cV.out _ K3.out.2).mono ?_
            rintro e v4 ⟨rfl, hv4⟩
            have K4 := Lib.hid (K3.out.next hv4)
            clear c_b14_0 c_b14_1 c_b14_2 c_b12_0 c_b12_1
            clear hv4 K3
            have c_b14_0 := K4.out.cell (b := b14) (cs := #[.int .u64 ax, .int .u64 ay, .int .u64 z1]) (t := 44) (by simp) 0 rfl
            have c_b14_1 := K4.out.cell (b := b14) (cs := #[.int .u64 ax, .int .u64 ay, .int .u64 z1]) (t := 44) (by simp) 1 rfl
            have c_b14_2 := K4.out.cell (b := b14) (cs := #[.int .u64 ax, .int .u64 ay, .int .u64 z1]) (t := 44) (by simp) 2 rfl
            have c_b12_0 := K4.out.cell (b := b12) (cs := #[.int .u64 px, .int .u64 py]) (t := 37) (by simp) 0 rfl
            have c_b12_1 := K4.out.cell (b := b12) (cs := #[.int .u64 px, .int .u64 py]) (t := 37) (by simp) 1 rfl
            go_wp2_with fail
            refine (cS2'.out _ K4.out.2).mono ?_
            rintro e v5 ⟨rfl, hv5⟩
            have K5 := Lib.hid ((K4.out.next hv5).new #[.int .u64 ax, .int .u64 ay, .int .u64 z2] 44)
            clear c_b14_0 c_b14_1 c_b14_2 c_b12_0 c_b12_1
            go_upto_region 10 with fail
            generalize v5.alloc (.cells #[.int .u64 ax, .int .u64 ay, .int .u64 z2] 44) = u5 at K5 ⊢
            generalize v5.heap.size = b17 at K5 ⊢
            clear hv5 K4
            have c_b17_0 := K5.out.cell (b := b17) (cs := #[.int .u64 ax, .int .u64 ay, .int .u64 z2]) (t := 44) (by simp) 0 rfl
            have c_b17_1 := K5.out.cell (b := b17) (cs := #[.int .u64 ax, .int .u64 ay, .int .u64 z2]) (t := 44) (by simp) 1 rfl
            have c_b17_2 := K5.out.cell (b := b17) (cs := #[.int .u64 ax, .int .u64 ay, .int .u64 z2]) (t := 44) (by simp) 2 rfl
            have c_b14_0 := K5.out.cell (b := b14) (cs := #[.int .u64 ax, .int .u64 ay, .int .u64 z1]) (t := 44) (by simp) 0 rfl
            have c_b14_1 := K5.out.cell (b := b14) (cs := #[.int .u64 ax, .int .u64 ay, .int .u64 z1]) (t := 44) (by simp) 1 rfl
            have c_b14_2 := K5.out.cell (b := b14) (cs := #[.int .u64 ax, .int .u64 ay, .int .u64 z1]) (t := 44) (by simp) 2 rfl
            have c_b12_0 := K5.out.cell (b := b12) (cs := #[.int .u64 px, .int .u64 py]) (t := 37) (by simp) 0 rfl
            have c_b12_1 := K5.out.cell (b := b12) (cs := #[.int .u64 px, .int .u64 py]) (t := 37) (by simp) 1 rfl
            go_wp2_with fail
            refine (cQ1.out _ K5.out.2).mono ?_
            rintro e v6 ⟨rfl, hv6⟩
            have K6 := Lib.hid (K5.out.next hv6)
            clear c_b17_0 c_b17_1 c_b17_2 c_b14_0 c_b14_1 c_b14_2 c_b12_0 c_b12_1
            clear hv6 K5
            have c_b17_0 := K6.out.cell (b := b17) (cs := #[.int .u64 ax, .int .u64 ay, .int .u64 z2]) (t := 44) (by simp) 0 rfl
            have c_b17_1 := K6.out.cell (b := b17) (cs := #[.int .u64 ax, .int .u64 ay, .int .u64 z2]) (t := 44) (by simp) 1 rfl
            have c_b17_2 := K6.out.cell (b := b17) (cs := #[.int .u64 ax, .int .u64 ay, .int .u64 z2]) (t := 44) (by simp) 2 rfl
            have c_b14_0 := K6.out.cell (b := b14) (cs := #[.int .u64 ax, .int .u64 ay, .int .u64 z1]) (t := 44) (by simp) 0 rfl
            have c_b14_1 := K6.out.cell (b := b14) (cs := #[.int .u64 ax, .int .u64 ay, .int .u64 z1]) (t := 44) (by simp) 1 rfl
            have c_b14_2 := K6.out.cell (b := b14) (cs := #[.int .u64 ax, .int .u64 ay, .int .u64 z1]) (t := 44) (by simp) 2 rfl
            have c_b12_0 := K6.out.cell (b := b12) (cs := #[.int .u64 px, .int .u64 py]) (t := 37) (by simp) 0 rfl
            have c_b12_1 := K6.out.cell (b := b12) (cs := #[.int .u64 px, .int .u64 py]) (t := 37) (by simp) 1 rfl
            go_wp2_with fail
            refine (cQ2.out _ K6.out.2).mono ?_
            rintro e v7 ⟨rfl, hv7⟩
            have K7 := Lib.hid (K6.out.next hv7)
            clear c_b17_0 c_b17_1 c_b17_2 c_b14_0 c_b14_1 c_b14_2 c_b12_0 c_b12_1
            clear hv7 K6
            have c_b17_0 := K7.out.cell (b := b17) (cs := #[.int .u64 ax, .int .u64 ay, .int .u64 z2]) (t := 44) (by simp) 0 rfl
            have c_b17_1 := K7.out.cell (b := b17) (cs := #[.int .u64 ax, .int .u64 ay, .int .u64 z2]) (t := 44) (by simp) 1 rfl
            have c_b17_2 := K7.out.cell (b := b17) (cs := #[.int .u64 ax, .int .u64 ay, .int .u64 z2]) (t := 44) (by simp) 2 rfl
            have c_b14_0 := K7.out.cell (b := b14) (cs := #[.int .u64 ax, .int .u64 ay, .int .u64 z1]) (t := 44) (by simp) 0 rfl
            have c_b14_1 := K7.out.cell (b := b14) (cs := #[.int .u64 ax, .int .u64 ay, .int .u64 z1]) (t := 44) (by simp) 1 rfl
            have c_b14_2 := K7.out.cell (b := b14) (cs := #[.int .u64 ax, .int .u64 ay, .int .u64 z1]) (t := 44) (by simp) 2 rfl
            have c_b12_0 := K7.out.cell (b := b12) (cs := #[.int .u64 px, .int .u64 py]) (t := 37) (by simp) 0 rfl
            have c_b12_1 := K7.out.cell (b := b12) (cs := #[.int .u64 px, .int .u64 py]) (t := 37) (by simp) 1 rfl
            go_wp2_with fail
            refine (cD.out _).mono ?_
            rintro e v' ⟨rfl, rfl⟩
            go_wp2_with fail
            refine (cZZ.out _).mono ?_
            rintro e v' ⟨rfl, rfl⟩
            go_wp2_with fail
            refine (cW.out _).mono ?_
            rintro e v' ⟨rfl, rfl⟩
            go_wp2_with fail
            refine (cM'.out hq0n.out _).mono ?_
            rintro e v' ⟨rfl, rfl⟩
            go_wp2_with fail
            refine (sTurnT k t hKk.out.1 hKk.out.2 (by assumption) _).mono ?_
            rintro e v' ⟨rfl, rfl⟩
            go_wp2_with fail
            refine (sTpT px py t px0 py0 hIn.out (by assumption) _).mono ?_
            rintro e v8 ⟨rfl, hv8⟩
            have K8 := Lib.hid ((K7.out.next hv8).new #[.int .u64 0, .int .u64 0] 37)
            clear c_b17_0 c_b17_1 c_b17_2 c_b14_0 c_b14_1 c_b14_2 c_b12_0 c_b12_1
            go_upto_region 21 with fail
            generalize v8.alloc (.cells #[.int .u64 0, .int .u64 0] 37) = u8 at K8 ⊢
            generalize v8.heap.size = b25 at K8 ⊢
            clear hv8 K7
            have c_b25_0 := K8.out.cell (b := b25) (cs := #[.int .u64 0, .int .u64 0]) (t := 37) (by simp) 0 rfl
            have c_b25_1 := K8.out.cell (b := b25) (cs := #[.int .u64 0, .int .u64 0]) (t := 37) (by simp) 1 rfl
            have c_b17_0 := K8.out.cell (b := b17) (cs := #[.int .u64 ax, .int .u64 ay, .int .u64 z2]) (t := 44) (by simp) 0 rfl
            have c_b17_1 := K8.out.cell (b := b17) (cs := #[.int .u64 ax, .int .u64 ay, .int .u64 z2]) (t := 44) (by simp) 1 rfl
            have c_b17_2 := K8.out.cell (b := b17) (cs := #[.int .u64 ax, .int .u64 ay, .int .u64 z2]) (t := 44) (by simp) 2 rfl
            have c_b14_0 := K8.out.cell (b := b14) (cs := #[.int .u64 ax, .int .u64 ay, .int .u64 z1]) (t := 44) (by simp) 0 rfl
            have c_b14_1 := K8.out.cell (b := b14) (cs := #[.int .u64 ax, .int .u64 ay, .int .u64 z1]) (t := 44) (by simp) 1 rfl
            have c_b14_2 := K8.out.cell (b := b14) (cs := #[.int .u64 ax, .int .u64 ay, .int .u64 z1]) (t := 44) (by simp) 2 rfl
            have c_b12_0 := K8.out.cell (b := b12) (cs := #[.int .u64 px, .int .u64 py]) (t := 37) (by simp) 0 rfl
            have c_b12_1 := K8.out.cell (b := b12) (cs := #[.int .u64 px, .int .u64 py]) (t := 37) (by simp) 1 rfl
            go_wp2_with fail
            go_ret
            exact ⟨rfl, K8.out.2⟩
    · have hKn := Lib.hid hn
      have hKk := Lib.hid hk
      have cP := fun w => sPointY k hk.1 hk.2 w
      have hSP := Obol.smulG_S k.toNat
      have hPn := Obol.keyG_ne (k := k.toNat) (by omega) (by omega)
      generalize Obol.Pnt.smul k.toNat Obol.G = P at *
      obtain ⟨px, py, px0, py0, -, -, hvP, -⟩ := coordsN P
      rw [hvP] at cP
      replace cP := Lib.hid cP
      clear hvP hSP hPn hk hn
      go_enter Tryd.func10, Tryd.ntmps10
      go_wp2_with fail
      refine (hU.out).mono ?_
      rintro e w1 ⟨rfl, hb1⟩
      have H1 := Lib.hid (HR.next (HR.refl w) hb1)
      clear hb1
      go_wp2_with fail
      refine (cP.out _).mono ?_
      rintro e v2 ⟨rfl, hv2⟩
      have K2 := Lib.hid ((H1.out.next hv2).new #[.int .u64 px, .int .u64 py] 37)
      go_upto_region 3 with fail
      generalize v2.alloc (.cells #[.int .u64 px, .int .u64 py] 37) = u2 at K2 ⊢
      generalize v2.heap.size = b12 at K2 ⊢
      clear hv2 H1
      have c_b12_0 := K2.out.cell (b := b12) (cs := #[.int .u64 px, .int .u64 py]) (t := 37) (by simp) 0 rfl
      have c_b12_1 := K2.out.cell (b := b12) (cs := #[.int .u64 px, .int .u64 py]) (t := 37) (by simp) 1 rfl
      go_wp2_with fail
      refine (sSignN k n hKk.out.1 hKk.out.2 n0 hKn.out ao1 len1 cap1 _).mono ?_
      rintro e v3 ⟨rfl, hv3⟩
      have K3 := Lib.hid ((K2.out.next hv3).new #[.int .u64 0, .int .u64 0, .int .u64 0] 44)
      clear c_b12_0 c_b12_1
      go_upto_region 4 with fail
      generalize v3.alloc (.cells #[.int .u64 0, .int .u64 0, .int .u64 0] 44) = u3 at K3 ⊢
      generalize v3.heap.size = b14 at K3 ⊢
      clear hv3 K2
      have c_b14_0 := K3.out.cell (b := b14) (cs := #[.int .u64 0, .int .u64 0, .int .u64 0]) (t := 44) (by simp) 0 rfl
      have c_b14_1 := K3.out.cell (b := b14) (cs := #[.int .u64 0, .int .u64 0, .int .u64 0]) (t := 44) (by simp) 1 rfl
      have c_b14_2 := K3.out.cell (b := b14) (cs := #[.int .u64 0, .int .u64 0, .int .u64 0]) (t := 44) (by simp) 2 rfl
      have c_b12_0 := K3.out.cell (b := b12) (cs := #[.int .u64 px, .int .u64 py]) (t := 37) (by simp) 0 rfl
      have c_b12_1 := K3.out.cell (b := b12) (cs := #[.int .u64 px, .int .u64 py]) (t := 37) (by simp) 1 rfl
      go_wp2_with fail
      go_ret
      exact ⟨rfl, K3.out.2⟩
  · have hKk := Lib.hid hk
    clear hk
    go_enter Tryd.func10, Tryd.ntmps10
    go_wp2_with fail
    refine (hU.out).mono ?_
    rintro e w1 ⟨rfl, hb1⟩
    have H1 := Lib.hid (HR.next (HR.refl w) hb1)
    clear hb1
    go_wp2_with fail
    refine (sPointN k k0 hKk.out _).mono ?_
    rintro e v2 ⟨rfl, hv2⟩
    have K2 := Lib.hid ((H1.out.next hv2).new #[.int .u64 0, .int .u64 0] 37)
    go_upto_region 3 with fail
    generalize v2.alloc (.cells #[.int .u64 0, .int .u64 0] 37) = u2 at K2 ⊢
    generalize v2.heap.size = b12 at K2 ⊢
    clear hv2 H1
    have c_b12_0 := K2.out.cell (b := b12) (cs := #[.int .u64 0, .int .u64 0]) (t := 37) (by simp) 0 rfl
    have c_b12_1 := K2.out.cell (b := b12) (cs := #[.int .u64 0, .int .u64 0]) (t := 37) (by simp) 1 rfl
    go_wp2_with fail
    refine (sSignK k n k0 hKk.out ao1 len1 cap1 _).mono ?_
    rintro e v3 ⟨rfl, hv3⟩
    have K3 := Lib.hid ((K2.out.next hv3).new #[.int .u64 0, .int .u64 0, .int .u64 0] 44)
    clear c_b12_0 c_b12_1
    go_upto_region 4 with fail
    generalize v3.alloc (.cells #[.int .u64 0, .int .u64 0, .int .u64 0] 44) = u3 at K3 ⊢
    generalize v3.heap.size = b14 at K3 ⊢
    clear hv3 K2
    have c_b14_0 := K3.out.cell (b := b14) (cs := #[.int .u64 0, .int .u64 0, .int .u64 0]) (t := 44) (by simp) 0 rfl
    have c_b14_1 := K3.out.cell (b := b14) (cs := #[.int .u64 0, .int .u64 0, .int .u64 0]) (t := 44) (by simp) 1 rfl
    have c_b14_2 := K3.out.cell (b := b14) (cs := #[.int .u64 0, .int .u64 0, .int .u64 0]) (t := 44) (by simp) 2 rfl
    have c_b12_0 := K3.out.cell (b := b12) (cs := #[.int .u64 0, .int .u64 0]) (t := 37) (by simp) 0 rfl
    have c_b12_1 := K3.out.cell (b := b12) (cs := #[.int .u64 0, .int .u64 0]) (t := 37) (by simp) 1 rfl
    go_wp2_with fail
    go_ret
    exact ⟨rfl, K3.out.2⟩

end Go.Proofs.YtiffendfojhapaaDoor
