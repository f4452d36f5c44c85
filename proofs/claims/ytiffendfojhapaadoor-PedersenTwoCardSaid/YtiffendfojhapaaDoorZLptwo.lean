import Derived.Test.YtiffendfojhapaaDoorZLpadds
set_option linter.unusedVariables false
set_option linter.unusedSimpArgs false
/- The walk of the law PedersenTwo. -/
namespace Go.Proofs.YtiffendfojhapaaDoor
open Go.RowKit

set_option maxRecDepth 8000 in
set_option maxHeartbeats 40000000 in
theorem walkTwo (w : World) (hG : RowsAt w) (ao1 : Option Addr) (len1 cap1 : Nat) (V1 : List Nat) (HV1 : U64 len1 V1) (hl1 : len1 ≤ cap1) (hc1 : cap1 ≤ 9223372036854775807) (hn1 : ao1 = none → len1 = 0 ∧ cap1 = 0) (hb1 : 0 < len1 → ∃ b o, ao1 = some ⟨b, o, none⟩ ∧ UL w b o V1) (ao2 : Option Addr) (len2 cap2 : Nat) (V2 : List Nat) (HV2 : U64 len2 V2) (hl2 : len2 ≤ cap2) (hc2 : cap2 ≤ 9223372036854775807) (hn2 : ao2 = none → len2 = 0 ∧ cap2 = 0) (hb2 : 0 < len2 → ∃ b o, ao2 = some ⟨b, o, none⟩ ∧ UL w b o V2) (x y : Int) (x0 : 0 ≤ x) (x1 : x ≤ 18446744073709551615) (y0 : 0 ≤ y) (y1 : y ≤ 18446744073709551615) :
    Calls Tryd.prog 13 #[.slice ao1 len1 cap1, .slice ao2 len2 cap2, .int .u64 x, .int .u64 y] w fun e w' => e = .returned (.bool true) ∧ Below w.heap.size w w' := by
  have hU := Lib.hid (fun W hw => up8 W (hG.below hw))
  have hS1 := Lib.hid (slu_of HV1 hl1 hc1 hn1 hb1)
  have hS2 := Lib.hid (slu_of HV2 hl2 hc2 hn2 hb2)
  replace HV1 := Lib.hid HV1
  replace HV2 := Lib.hid HV2
  have hG' := Lib.hid hG
  have hl1' : (len1 : Int) ≤ 9223372036854775807 := by omega
  have hl2' : (len2 : Int) ≤ 9223372036854775807 := by omega
  clear hn1 hb1 hn2 hb2 hG hl1 hl2 hc1 hc2
  by_cases h4 : 3 < len1
  · have h4' : (3 : Int) < len1 := by omega
    go_enter Tryd.func13, Tryd.ntmps13
    go_wp2_with fail
    refine (hU.out _ (Below.refl _ _)).mono ?_
    rintro e w1 ⟨rfl, hb1⟩
    have H1 := Lib.hid (HR.next (HR.refl w) hb1)
    clear hb1
    go_wp2_with fail
    go_ret
    exact ⟨rfl, H1.out.2⟩
  have h4' : (len1 : Int) ≤ 3 := by omega
  by_cases hne : len2 = len1
  case neg =>
    have hne' : ((len2 : Int) != (len1 : Int)) = true := by simp; omega
    go_enter Tryd.func13, Tryd.ntmps13
    go_wp2_with fail
    refine (hU.out _ (Below.refl _ _)).mono ?_
    rintro e w1 ⟨rfl, hb1⟩
    have H1 := Lib.hid (HR.next (HR.refl w) hb1)
    clear hb1
    go_wp2_with fail
    go_ret
    exact ⟨rfl, H1.out.2⟩
  obtain rfl := hne
  obtain ⟨p, hp⟩ := com_some x.toNat V1 len2 (by omega)
  obtain ⟨q, hq⟩ := com_some y.toNat V2 len2 (by omega)
  obtain ⟨px, py, px0, py0, -, -, hvp, -⟩ := coordsN p
  obtain ⟨qx, qy, qx0, qy0, -, -, hvq, -⟩ := coordsN q
  have cA := fun W (hw : Below w.heap.size w W) => pCommitY x x0 x1 ao1 len2 cap1 V1 HV1.out (by omega) p hp W (hS1.out.at hw) (hG'.out.below hw)
  rw [hvp] at cA
  replace cA := Lib.hid cA
  by_cases hpq : qx = px ∧ qy = py
  case neg =>
    have cO := Lib.hid (fun W (hw : Below w.heap.size w W) => pOpensX px py y ao2 len2 cap2 y0 y1 V2 HV2.out (by omega) q hq qx qy hvq hpq W (hS2.out.at hw) (hG'.out.below hw))
    clear hp hq hvp hvq hpq
    go_enter Tryd.func13, Tryd.ntmps13
    go_wp2_with fail
    refine (hU.out _ (Below.refl _ _)).mono ?_
    rintro e w1 ⟨rfl, hb1⟩
    have H1 := Lib.hid (HR.next (HR.refl w) hb1)
    clear hb1
    go_wp2_with fail
    refine (cA.out _ H1.out.2).mono ?_
    rintro e v2 ⟨rfl, hv2⟩
    have K2 := Lib.hid ((H1.out.next hv2).new #[.int .u64 px, .int .u64 py] 37)
    go_upto_region 5 with fail
    generalize v2.alloc (.cells #[.int .u64 px, .int .u64 py] 37) = u2 at K2 ⊢
    generalize v2.heap.size = b10 at K2 ⊢
    clear hv2 H1
    have c_b10_0 := K2.out.cell (b := b10) (cs := #[.int .u64 px, .int .u64 py]) (t := 37) (by simp) 0 rfl
    have c_b10_1 := K2.out.cell (b := b10) (cs := #[.int .u64 px, .int .u64 py]) (t := 37) (by simp) 1 rfl
    go_wp2_with fail
    go_wp2_with fail
    refine (cO.out _ K2.out.2).mono ?_
    rintro e v3 ⟨rfl, hv3⟩
    have K3 := Lib.hid (K2.out.next hv3)
    clear c_b10_0 c_b10_1
    clear hv3 K2
    have c_b10_0 := K3.out.cell (b := b10) (cs := #[.int .u64 px, .int .u64 py]) (t := 37) (by simp) 0 rfl
    have c_b10_1 := K3.out.cell (b := b10) (cs := #[.int .u64 px, .int .u64 py]) (t := 37) (by simp) 1 rfl
    go_wp2_with fail
    go_ret
    exact ⟨rfl, K3.out.2⟩
  obtain ⟨rfl, rfl⟩ := hpq
  obtain rfl : q = p := by
    have e1 := n_of hvp px0 py0
    have e2 := n_of hvq px0 py0
    rw [← Obol.of_n q, ← e2, e1, Obol.of_n]
  have cO := Lib.hid (fun W (hw : Below w.heap.size w W) => pOpensY qx qy y ao2 len2 cap2 y0 y1 V2 HV2.out (by omega) q hq hvq W (hS2.out.at hw) (hG'.out.below hw))
  have hr := com_dif hp hq (by omega)
  have hty : y.tmod 72057593894066549 = y % 72057593894066549 := Int.tmod_eq_emod_of_nonneg y0
  have huy : IntKind.u64.wrap (72057593894066549 - y % 72057593894066549) = 72057593894066549 - y % 72057593894066549 := by rw [IntKind.wrap_u64]; omega
  have cT := fun w => r1Add 72057593894066549 x (72057593894066549 - y % 72057593894066549) (by omega) (by omega) x0 (by omega) w
  rw [litSn] at cT
  obtain ⟨z, hz⟩ : ∃ z : Int, ((Obol.addM 72057593894066549 x.toNat (72057593894066549 - y % 72057593894066549 : Int).toNat : Nat) : Int) = z := ⟨_, rfl⟩
  rw [hz] at cT
  have hzt : z.toNat = difF x.toNat y.toNat := by unfold difF; rw [show (72057593894066549 : Nat) - y.toNat % 72057593894066549 = (72057593894066549 - y % 72057593894066549 : Int).toNat by omega]; omega
  have z1 := difF_lt x.toNat y.toNat
  rw [← hzt] at hr z1
  have cC := fun W (hw : Below w.heap.size w W) a c hS => pCommitY z (by omega) (by omega) a len2 c (zipN difF V1 V2 len2) (zip_u64 difF difF_lt V1 V2 len2) (by omega) Obol.Pnt.zero hr W hS (hG'.out.below hw)
  rw [zeroV] at cC
  replace cC := Lib.hid cC
  replace cT := Lib.hid cT
  clear hp hq hr hz hzt z1 hvp hvq
  go_enter Tryd.func13, Tryd.ntmps13
  go_wp2_with fail
  refine (hU.out _ (Below.refl _ _)).mono ?_
  rintro e w1 ⟨rfl, hb1⟩
  have H1 := Lib.hid (HR.next (HR.refl w) hb1)
  clear hb1
  go_wp2_with fail
  refine (cA.out _ H1.out.2).mono ?_
  rintro e v2 ⟨rfl, hv2⟩
  have K2 := Lib.hid ((H1.out.next hv2).new #[.int .u64 qx, .int .u64 qy] 37)
  go_upto_region 5 with fail
  generalize v2.alloc (.cells #[.int .u64 qx, .int .u64 qy] 37) = u2 at K2 ⊢
  generalize v2.heap.size = b10 at K2 ⊢
  clear hv2 H1
  have c_b10_0 := K2.out.cell (b := b10) (cs := #[.int .u64 qx, .int .u64 qy]) (t := 37) (by simp) 0 rfl
  have c_b10_1 := K2.out.cell (b := b10) (cs := #[.int .u64 qx, .int .u64 qy]) (t := 37) (by simp) 1 rfl
  go_wp2_with fail
  go_wp2_with fail
  refine (cO.out _ K2.out.2).mono ?_
  rintro e v3 ⟨rfl, hv3⟩
  have K3 := Lib.hid (K2.out.next hv3)
  clear c_b10_0 c_b10_1
  clear hv3 K2
  have c_b10_0 := K3.out.cell (b := b10) (cs := #[.int .u64 qx, .int .u64 qy]) (t := 37) (by simp) 0 rfl
  have c_b10_1 := K3.out.cell (b := b10) (cs := #[.int .u64 qx, .int .u64 qy]) (t := 37) (by simp) 1 rfl
  go_wp2_with fail
  clear c_b10_0 c_b10_1
  go_loopw [13, 14] (fun q1 q2 wr => ∃ j : Nat, q2 = .int .i64 (j : Int) ∧ j ≤ len2 ∧ Hid (OwnU wr w.heap.size q1 (zipN difF V1 V2 j)) ∧ Hid (HR w wr [])) (fun _ q2 _ => (len2 - intOf q2).toNat)
  case atStart => exact ⟨0, rfl, Nat.zero_le _, Lib.hid (OwnU.nil _ _), Lib.hid (HR.sub (qs := []) K3.out (by simp))⟩
  case round =>
    rename World => wr
    obtain ⟨j, rfl, hj, hO, H⟩ := hrel
    obtain ⟨i, hi⟩ : ∃ i : Int, (j : Int) = i := ⟨_, rfl⟩
    rw [hi]
    have i0 : 0 ≤ i := by omega
    by_cases hjl : j < len2
    · have i1 : i < (len2 : Int) := by omega
      obtain ⟨va, hva, va0, va1⟩ := u64_at HV1.out (i := i) (by omega) (by omega)
      obtain ⟨vb, hvb, vb0, vb1⟩ := u64_at HV2.out (i := i) (by omega) (by omega)
      obtain ⟨ab, ap, rfl, hab, hau⟩ := hS1.out.bl (by rw [HV1.out.len]; omega)
      obtain ⟨bb, bp, rfl, hbb, hbu⟩ := hS2.out.bl (by rw [HV2.out.len]; omega)
      have ca : wr.cell? ⟨ab, ap + i.toNat, none⟩ = some (.int .u64 va) := by rw [← hva]; exact (hau.below H.out.2 hab) i.toNat (by rw [HV1.out.len]; omega)
      have cb : wr.cell? ⟨bb, bp + i.toNat, none⟩ = some (.int .u64 vb) := by rw [← hvb]; exact (hbu.below H.out.2 hbb) i.toNat (by rw [HV2.out.len]; omega)
      have hsz := H.out.2.size
      have hlw : ab < wr.heap.size := Nat.lt_of_lt_of_le hab hsz
      have hlv : bb < wr.heap.size := Nat.lt_of_lt_of_le hbb hsz
      have hin : i.toNat = j := by omega
      rw [hin] at hva hvb
      have htb : vb.tmod 72057593894066549 = vb % 72057593894066549 := Int.tmod_eq_emod_of_nonneg vb0
      have hub : IntKind.u64.wrap (72057593894066549 - vb % 72057593894066549) = 72057593894066549 - vb % 72057593894066549 := by rw [IntKind.wrap_u64]; omega
      have cS := fun w => r1Add 72057593894066549 va (72057593894066549 - vb % 72057593894066549) (by omega) (by omega) va0 (by omega) w
      rw [litSn] at cS
      obtain ⟨c, hc⟩ : ∃ c : Int, ((Obol.addM 72057593894066549 va.toNat (72057593894066549 - vb % 72057593894066549 : Int).toNat : Nat) : Int) = c := ⟨_, rfl⟩
      rw [hc] at cS
      have c0 : 0 ≤ c := by omega
      have hcv : difF (V1.getD j 0) (V2.getD j 0) = c.toNat := by
        rw [show V1.getD j 0 = va.toNat by omega, show V2.getD j 0 = vb.toNat by omega]
        unfold difF
        rw [show (72057593894066549 : Nat) - vb.toNat % 72057593894066549 = (72057593894066549 - vb % 72057593894066549 : Int).toNat by omega]
        omega
      replace cS := Lib.hid cS
      clear hc
      have hzl : (zipN difF V1 V2 j).length = j := zip_len _ _ _ _
      have hzn : zipN difF V1 V2 j ++ [c.toNat] = zipN difF V1 V2 (j + 1) := by rw [zip_succ, hcv]
      replace hva := Lib.hid hva
      replace hvb := Lib.hid hvb
      replace hab := Lib.hid hab
      replace hbb := Lib.hid hbb
      clear hcv hin
      go_wp2_with fail
      refine wp_region_noPanic ?_
      refine wp_region_held_drew (S := fun wq => wq.cell? ⟨ab, ap + i.toNat, none⟩ = some (.int .u64 va) ∧ wq.cell? ⟨bb, bp + i.toNat, none⟩ = some (.int .u64 vb) ∧ HR w wq []) (by kernel_rfl) ?_ (fun hHeld => ?_)
      · have hq0 := HR.drew H.out
        exact ⟨ca, cb, hq0⟩
      refine takeH 0 (fun _ _ _ _ _ h => h) (by kernel_rfl) hHeld rfl (by kernel_rfl) (by rfl) (v := ?_) ?_ ?_
      rotate_left
      ((intro wz hz; (try dsimp only at hz); go_simp) <;> with_reducible rfl)
      try simp only [Act.put, List.setIfInBounds_toArray, List.set_cons_zero, List.set_cons_succ]
      refine takeH 1 (fun _ _ _ _ _ h => h) (by kernel_rfl) hHeld rfl (by kernel_rfl) (by rfl) (v := ?_) ?_ ?_
      rotate_left
      ((intro wz hz; (try dsimp only at hz); go_simp) <;> with_reducible rfl)
      try simp only [Act.put, List.setIfInBounds_toArray, List.set_cons_zero, List.set_cons_succ]
      refine takeH 2 (fun _ _ _ _ _ h => h) (by kernel_rfl) hHeld rfl (by kernel_rfl) (by rfl) (v := ?_) ?_ ?_
      rotate_left
      ((intro wz hz; (try dsimp only at hz); go_simp) <;> with_reducible rfl)
      try simp only [Act.put, List.setIfInBounds_toArray, List.set_cons_zero, List.set_cons_succ]
      refine takeH 3 (fun _ _ _ _ _ h => h) (by kernel_rfl) hHeld rfl (by kernel_rfl) (by rfl) (v := ?_) ?_ ?_
      rotate_left
      ((intro wz hz; (try dsimp only at hz); go_simp) <;> with_reducible rfl)
      try simp only [Act.put, List.setIfInBounds_toArray, List.set_cons_zero, List.set_cons_succ]
      refine takeH 4 (fun _ _ _ _ _ h => h) (by kernel_rfl) hHeld rfl (by kernel_rfl) (by rfl) (v := ?_) ?_ ?_
      rotate_left
      ((intro wz hz; (try dsimp only at hz); go_simp) <;> with_reducible rfl)
      try simp only [Act.put, List.setIfInBounds_toArray, List.set_cons_zero, List.set_cons_succ]
      refine takeH 5 (fun _ _ _ _ _ h => h) (by kernel_rfl) hHeld rfl (by kernel_rfl) (by rfl) (v := ?_) ?_ ?_
      rotate_left
      ((intro wz hz; (try dsimp only at hz); go_simp) <;> with_reducible rfl)
      try simp only [Act.put, List.setIfInBounds_toArray, List.set_cons_zero, List.set_cons_succ]
      refine takeH 6 (fun _ _ _ _ _ h => h) (by kernel_rfl) hHeld rfl (by kernel_rfl) (by rfl) (v := ?_) ?_ ?_
      rotate_left
      ((intro wz hz; (try dsimp only at hz); go_simp) <;> with_reducible rfl)
      try simp only [Act.put, List.setIfInBounds_toArray, List.set_cons_zero, List.set_cons_succ]
      refine takeH 7 (fun _ _ _ _ _ h => h) (by kernel_rfl) hHeld rfl (by kernel_rfl) (by rfl) (v := ?_) ?_ ?_
      rotate_left
      ((intro wz hz; (try dsimp only at hz); go_simp) <;> with_reducible rfl)
      try simp only [Act.put, List.setIfInBounds_toArray, List.set_cons_zero, List.set_cons_succ]
      refine takeH 8 (fun _ _ _ _ _ h => h) (by kernel_rfl) hHeld rfl (by kernel_rfl) (by rfl) (v := ?_) ?_ ?_
      rotate_left
      ((intro wz hz; (try dsimp only at hz); go_simp) <;> with_reducible rfl)
      try simp only [Act.put, List.setIfInBounds_toArray, List.set_cons_zero, List.set_cons_succ]
      refine takeH 9 (fun _ _ _ _ _ h => h) (by kernel_rfl) hHeld rfl (by kernel_rfl) (by rfl) (v := ?_) ?_ ?_
      rotate_left
      ((intro wz hz; (try dsimp only at hz); go_simp) <;> with_reducible rfl)
      try simp only [Act.put, List.setIfInBounds_toArray, List.set_cons_zero, List.set_cons_succ]
      refine takeH 10 (fun _ _ _ _ _ h => h) (by kernel_rfl) hHeld rfl (by kernel_rfl) (by rfl) (v := ?_) ?_ ?_
      rotate_left
      ((intro wz hz; (try dsimp only at hz); go_simp) <;> with_reducible rfl)
      try simp only [Act.put, List.setIfInBounds_toArray, List.set_cons_zero, List.set_cons_succ]
      refine stepH 11 (by kernel_rfl) rfl (by rfl) (fun K hK => ?_)
      go_simp
      refine (cS.out _).mono ?_
      rintro e wq' ⟨rfl, rfl⟩
      refine hK.out _ _ ?_ (fun hHeld => ?_)
      · exact hHeld
      clear hK K
      try simp only [Act.put, List.setIfInBounds_toArray, List.set_cons_zero, List.set_cons_succ]
      refine stepH 12 (by kernel_rfl) rfl (by rfl) (fun K hK => ?_)
      go_simp
      refine hK.out _ _ ?_ (fun hHeld => ?_)
      · exact ⟨wcell ca (bAlloc (bDrew (Below.refl _ wr)) (.cells #[.int .u64 c] 31)) hlw, wcell cb (bAlloc (bDrew (Below.refl _ wr)) (.cells #[.int .u64 c] 31)) hlv, (HR.alloc hHeld.2.2 (.cells #[.int .u64 c] 31))⟩
      clear hK K
      try simp only [Act.put, List.setIfInBounds_toArray, List.set_cons_zero, List.set_cons_succ]
      refine stepH 13 (by kernel_rfl) rfl (by rfl) (fun K hK => ?_)
      obtain ⟨v', w2, hap, hO', hb', -⟩ := append_ownU (wr.drew.alloc (.cells #[.int .u64 c] 31)) w.heap.size _ _ [c.toNat] (hO.out.keep (bAlloc (bDrew (Below.refl _ wr)) (.cells #[.int .u64 c] 31)) (Nat.le_refl _)) ⟨wr.heap.size, 0, none⟩ 1 1 rfl (newsU wr.drew c c0) (by rw [hzl]; simp; omega) (by simp; omega)
      rw [hzn] at hO'
      have HO := Lib.hid hO'
      have HN : Hid (HR w w2 []) := Lib.hid ⟨(fun r hr => by cases hr), (HR.alloc (HR.drew H.out) (.cells #[.int .u64 c] 31)).2.trans hb'⟩
      refine wp_appended _ _ _ _ rfl _ _ _ rfl rfl hap ?_
      refine hK.out _ _ ?_ (fun hHeld => ?_)
      · exact ⟨by rw [← hva.out, show i.toNat = j by omega]; exact (hau.below HN.out.2 hab.out) j (by rw [HV1.out.len]; exact hjl), by rw [← hvb.out, show i.toNat = j by omega]; exact (hbu.below HN.out.2 hbb.out) j (by rw [HV2.out.len]; exact hjl), HN.out⟩
      clear hK K
      try simp only [Act.put, List.setIfInBounds_toArray, List.set_cons_zero, List.set_cons_succ]
      refine takeH 14 (fun _ _ _ _ _ h => h) (by kernel_rfl) hHeld rfl (by kernel_rfl) (by rfl) (v := ?_) ?_ ?_
      rotate_left
      ((intro wz hz; (try dsimp only at hz); go_simp) <;> with_reducible rfl)
      try simp only [Act.put, List.setIfInBounds_toArray, List.set_cons_zero, List.set_cons_succ]
      refine wpAnyH_done (by kernel_rfl) (NoPanic.normal ?_) _
      clear hHeld hO' hb' hap hzl hzn hO
      go_wp2_with fail
      go_roundw
      case rel => exact ⟨j + 1, by simp; omega, by omega, HO, HN⟩
      case measure => simp [intOf]; omega
    · obtain rfl : j = len2 := by omega
      have i1 : ¬ i < (j : Int) := by omega
      obtain ⟨ao3, cap3, rfl, hS3⟩ := hO.out.sl
      rw [zip_len]
      have hSz := Lib.hid hS3
      have HW := H
      have HX := Lib.hid (HR.refl wr)
      clear hO H hS3
      go_wp2_with fail
      refine (cT.out _).mono ?_
      rintro e v' ⟨rfl, rfl⟩
      go_wp2_with fail
      refine (cC.out _ (bThen HW.out.2 HX.out.2 HW.out.2.size) _ _ (hSz.out.at HX.out.2)).mono ?_
      rintro e v2 ⟨rfl, hv2⟩
      have K2 := Lib.hid ((HX.out.next hv2).new #[.int .u64 0, .int .u64 1] 37)
      go_upto_region 14 with fail
      generalize v2.alloc (.cells #[.int .u64 0, .int .u64 1] 37) = u2 at K2 ⊢
      generalize v2.heap.size = b15 at K2 ⊢
      clear hv2 HX
      have c_b15_0 := K2.out.cell (b := b15) (cs := #[.int .u64 0, .int .u64 1]) (t := 37) (by simp) 0 rfl
      have c_b15_1 := K2.out.cell (b := b15) (cs := #[.int .u64 0, .int .u64 1]) (t := 37) (by simp) 1 rfl
      go_wp2_with fail
      go_wp2_with fail
      go_ret
      exact ⟨rfl, bThen HW.out.2 K2.out.2 HW.out.2.size⟩

end Go.Proofs.YtiffendfojhapaaDoor
