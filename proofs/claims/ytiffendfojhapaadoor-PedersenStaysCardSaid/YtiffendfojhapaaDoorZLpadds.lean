import Derived.Test.YtiffendfojhapaaDoorZWup8
import Derived.Test.YtiffendfojhapaaDoorZVu64
import Derived.Test.YtiffendfojhapaaDoorZWnums
set_option linter.unusedVariables false
set_option linter.unusedSimpArgs false
/- The walk of the law PedersenAdds. -/
namespace Go.Proofs.YtiffendfojhapaaDoor
open Go.RowKit

/-- The numbers that the law makes of two lists. -/
def zipN (f : Nat → Nat → Nat) (A B : List Nat) (j : Nat) : List Nat := (List.range j).map fun i => f (A.getD i 0) (B.getD i 0)
theorem zip_len (f : Nat → Nat → Nat) (A B : List Nat) (j : Nat) : (zipN f A B j).length = j := by simp [zipN]
theorem zip_succ (f : Nat → Nat → Nat) (A B : List Nat) (j : Nat) : zipN f A B (j + 1) = zipN f A B j ++ [f (A.getD j 0) (B.getD j 0)] := by simp [zipN, List.range_succ]
theorem zip_get (f : Nat → Nat → Nat) (A B : List Nat) (j i : Nat) (h : i < j) : (zipN f A B j).getD i 0 = f (A.getD i 0) (B.getD i 0) := by
  rw [List.getD_eq_getElem?_getD, zipN, List.getElem?_map, List.getElem?_range h]
  rfl
def sumF (a b : Nat) : Nat := Obol.addM 72057593894066549 a b
def difF (a b : Nat) : Nat := Obol.addM 72057593894066549 a (72057593894066549 - b % 72057593894066549)
theorem sumF_lt (a b : Nat) : sumF a b < 72057593894066549 := Nat.mod_lt _ (by decide)
theorem difF_lt (a b : Nat) : difF a b < 72057593894066549 := Nat.mod_lt _ (by decide)
theorem zip_u64 (f : Nat → Nat → Nat) (hf : ∀ a b, f a b < 72057593894066549) (A B : List Nat) (j : Nat) : U64 j (zipN f A B j) := ⟨zip_len _ _ _ _, fun i => by
  by_cases h : i < j
  · rw [zip_get f A B j i h]; have := hf (A.getD i 0) (B.getD i 0); omega
  · rw [List.getD_eq_getElem?_getD, List.getElem?_eq_none (by rw [zip_len]; omega)]; decide⟩
theorem com_sum {x y : Nat} {A B : List Nat} {j : Nat} {p q : Obol.Pt} (hp : comN x A j = some p) (hq : comN y B j = some q) : comN (sumF x y) (zipN sumF A B j) j = some (p.add q) :=
  com_lin (by unfold sumF Obol.addM; omega) j (fun i hi => by rw [zip_get _ _ _ _ _ hi]; unfold sumF Obol.addM; omega) hp hq
theorem com_dif {x y : Nat} {A B : List Nat} {j : Nat} {p : Obol.Pt} (hp : comN x A j = some p) (hq : comN y B j = some p) (hj : j ≤ 4) : comN (difF x y) (zipN difF A B j) j = some Obol.Pnt.zero := by
  obtain ⟨d, hd⟩ := com_some (difF x y) (zipN difF A B j) j hj
  have h := com_lin (x := difF x y) (y := y) (z := x) (A := zipN difF A B j) (B := B) (C := A) (by unfold difF Obol.addM; omega) j (fun i hi => by rw [zip_get _ _ _ _ _ hi]; unfold difF Obol.addM; omega) hd hq
  rw [hp] at h
  have h2 : p = d.add p := Option.some.inj h
  have h3 : p.add d = p.add Obol.Pnt.zero := by rw [Obol.Pnt.add_zero, Obol.Pnt.add_comm]; exact h2.symm
  rw [hd, Obol.Pnt.add_cancel h3]

set_option maxRecDepth 8000 in
set_option maxHeartbeats 40000000 in
theorem walkAdds (w : World) (hG : RowsAt w) (ao1 : Option Addr) (len1 cap1 : Nat) (V1 : List Nat) (HV1 : U64 len1 V1) (hl1 : len1 ≤ cap1) (hc1 : cap1 ≤ 9223372036854775807) (hn1 : ao1 = none → len1 = 0 ∧ cap1 = 0) (hb1 : 0 < len1 → ∃ b o, ao1 = some ⟨b, o, none⟩ ∧ UL w b o V1) (ao2 : Option Addr) (len2 cap2 : Nat) (V2 : List Nat) (HV2 : U64 len2 V2) (hl2 : len2 ≤ cap2) (hc2 : cap2 ≤ 9223372036854775807) (hn2 : ao2 = none → len2 = 0 ∧ cap2 = 0) (hb2 : 0 < len2 → ∃ b o, ao2 = some ⟨b, o, none⟩ ∧ UL w b o V2) (x y : Int) (x0 : 0 ≤ x) (x1 : x ≤ 18446744073709551615) (y0 : 0 ≤ y) (y1 : y ≤ 18446744073709551615) :
    Calls Tryd.prog 12 #[.slice ao1 len1 cap1, .slice ao2 len2 cap2, .int .u64 x, .int .u64 y] w fun e w' => e = .returned (.bool true) ∧ Below w.heap.size w w' := by
  have hU := Lib.hid (fun W hw => up8 W (hG.below hw))
  have hS1 := Lib.hid (slu_of HV1 hl1 hc1 hn1 hb1)
  have hS2 := Lib.hid (slu_of HV2 hl2 hc2 hn2 hb2)
  replace HV1 := Lib.hid HV1
  replace HV2 := Lib.hid HV2
  have hG' := Lib.hid hG
  have hl1' : (len1 : Int) ≤ 9223372036854775807 := by omega
  have hl2' : (len2 : Int) ≤ 9223372036854775807 := by omega
  clear hn1 hb1 hn2 hb2 hG hl1 hl2 hc1 hc2
  by_cases h4 : 4 < len1
  · have h4' : (4 : Int) < len1 := by omega
    go_enter Tryd.func12, Tryd.ntmps12
    go_wp2_with fail
    refine (hU.out _ (Below.refl _ _)).mono ?_
    rintro e w1 ⟨rfl, hb1⟩
    have H1 := Lib.hid (HR.next (HR.refl w) hb1)
    clear hb1
    go_wp2_with fail
    go_ret
    exact ⟨rfl, H1.out.2⟩
  have h4' : (len1 : Int) ≤ 4 := by omega
  by_cases hne : len2 = len1
  case neg =>
    have hne' : ((len2 : Int) != (len1 : Int)) = true := by simp; omega
    go_enter Tryd.func12, Tryd.ntmps12
    go_wp2_with fail
    refine (hU.out _ (Below.refl _ _)).mono ?_
    rintro e w1 ⟨rfl, hb1⟩
    have H1 := Lib.hid (HR.next (HR.refl w) hb1)
    clear hb1
    go_wp2_with fail
    go_ret
    exact ⟨rfl, H1.out.2⟩
  obtain rfl := hne
  obtain ⟨p, hp⟩ := com_some x.toNat V1 len2 (by omega)
  obtain ⟨q, hq⟩ := com_some y.toNat V2 len2 (by omega)
  have hr := com_sum hp hq
  have cA := fun W (hw : Below w.heap.size w W) => pCommitY x x0 x1 ao1 len2 cap1 V1 HV1.out (by omega) p hp W (hS1.out.at hw) (hG'.out.below hw)
  have cB := fun W (hw : Below w.heap.size w W) => pCommitY y y0 y1 ao2 len2 cap2 V2 HV2.out (by omega) q hq W (hS2.out.at hw) (hG'.out.below hw)
  have cT := fun w => r1Add 72057593894066549 x y (by omega) (by omega) x0 y0 w
  rw [litSn] at cT
  obtain ⟨z, hz⟩ : ∃ z : Int, ((Obol.addM 72057593894066549 x.toNat y.toNat : Nat) : Int) = z := ⟨_, rfl⟩
  rw [hz] at cT
  have hzt : z.toNat = sumF x.toNat y.toNat := by unfold sumF; omega
  have z1 := sumF_lt x.toNat y.toNat
  rw [← hzt] at hr z1
  have cC := fun W (hw : Below w.heap.size w W) a c hS => pCommitY z (by omega) (by omega) a len2 c (zipN sumF V1 V2 len2) (zip_u64 sumF sumF_lt V1 V2 len2) (by omega) (p.add q) hr W hS (hG'.out.below hw)
  obtain ⟨px, py, px0, py0, -, -, hvp, -⟩ := coordsN p
  obtain ⟨qx, qy, qx0, qy0, -, -, hvq, -⟩ := coordsN q
  have cD := fun w => gAdd px py qx qy px0 py0 qx0 qy0 w
  rw [n_of hvp px0 py0, n_of hvq qx0 qy0, Obol.of_n, Obol.of_n] at cD
  obtain ⟨sx, sy, -, -, -, -, hvs, -⟩ := coordsN (p.add q)
  rw [hvs] at cC cD
  rw [hvp] at cA
  rw [hvq] at cB
  replace cA := Lib.hid cA
  replace cB := Lib.hid cB
  replace cC := Lib.hid cC
  replace cD := Lib.hid cD
  replace cT := Lib.hid cT
  clear hp hq hr hz hzt z1 hvp hvq hvs
  go_enter Tryd.func12, Tryd.ntmps12
  go_wp2_with fail
  refine (hU.out _ (Below.refl _ _)).mono ?_
  rintro e w1 ⟨rfl, hb1⟩
  have H1 := Lib.hid (HR.next (HR.refl w) hb1)
  clear hb1
  go_wp2_with fail
  go_loopw [10, 11] (fun q1 q2 wr => ∃ j : Nat, q2 = .int .i64 (j : Int) ∧ j ≤ len2 ∧ Hid (OwnU wr w.heap.size q1 (zipN sumF V1 V2 j)) ∧ Hid (HR w wr [])) (fun _ q2 _ => (len2 - intOf q2).toNat)
  case atStart => exact ⟨0, rfl, Nat.zero_le _, Lib.hid (OwnU.nil _ _), H1⟩
  case round =>
    rename World => wr
    obtain ⟨j, rfl, hj, hO, H⟩ := hrel
    obtain ⟨i, hi⟩ : ∃ i : Int, (j : Int) = i := ⟨_, rfl⟩
    rw [hi]
    have i0 : 0 ≤ i := by omega
    by_cases hjl : j < len2
    · have i1 : i < (len2 : Int) := by omega
      obtain ⟨va, hva, va0, va1⟩ := u64_at HV1.out (i := i) (by omega) (by omega)
      obtain ⟨vb, hvb, vb0, vb1⟩ := u64_at HV2.out (i := i) (by omega) (by omega)
      obtain ⟨ab, ap, rfl, hab, hau⟩ := hS1.out.bl (by rw [HV1.out.len]; omega)
      obtain ⟨bb, bp, rfl, hbb, hbu⟩ := hS2.out.bl (by rw [HV2.out.len]; omega)
      have ca : wr.cell? ⟨ab, ap + i.toNat, none⟩ = some (.int .u64 va) := by rw [← hva]; exact (hau.below H.out.2 hab) i.toNat (by rw [HV1.out.len]; omega)
      have cb : wr.cell? ⟨bb, bp + i.toNat, none⟩ = some (.int .u64 vb) := by rw [← hvb]; exact (hbu.below H.out.2 hbb) i.toNat (by rw [HV2.out.len]; omega)
      have hsz := H.out.2.size
      have hlw : ab < wr.heap.size := Nat.lt_of_lt_of_le hab hsz
      have hlv : bb < wr.heap.size := Nat.lt_of_lt_of_le hbb hsz
      have hin : i.toNat = j := by omega
      rw [hin] at hva hvb
      have cS := fun w => r1Add 72057593894066549 va vb (by omega) (by omega) va0 vb0 w
      rw [litSn] at cS
      obtain ⟨c, hc⟩ : ∃ c : Int, ((Obol.addM 72057593894066549 va.toNat vb.toNat : Nat) : Int) = c := ⟨_, rfl⟩
      rw [hc] at cS
      have c0 : 0 ≤ c := by omega
      have hcv : sumF (V1.getD j 0) (V2.getD j 0) = c.toNat := by
        rw [show V1.getD j 0 = va.toNat by omega, show V2.getD j 0 = vb.toNat by omega]
        unfold sumF
        omega
      replace cS := Lib.hid cS
      clear hc
      have hzl : (zipN sumF V1 V2 j).length = j := zip_len _ _ _ _
      have hzn : zipN sumF V1 V2 j ++ [c.toNat] = zipN sumF V1 V2 (j + 1) := by rw [zip_succ, hcv]
      replace hva := Lib.hid hva
      replace hvb := Lib.hid hvb
      replace hab := Lib.hid hab
      replace hbb := Lib.hid hbb
      clear hcv hin
      go_wp2_with fail
      refine wp_region_noPanic ?_
      refine wp_region_held_drew (S := fun wq => wq.cell? ⟨ab, ap + i.toNat, none⟩ = some (.int .u64 va) ∧ wq.cell? ⟨bb, bp + i.toNat, none⟩ = some (.int .u64 vb) ∧ HR w wq []) (by kernel_rfl) ?_ (fun hHeld => ?_)
      · have hq0 := HR.drew H.out
        exact ⟨ca, cb, hq0⟩
      refine takeH 0 (fun _ _ _ _ _ h => h) (by kernel_rfl) hHeld rfl (by kernel_rfl) (by rfl) (v := ?_) ?_ ?_
      rotate_left
      ((intro wz hz; (try dsimp only at hz); go_simp) <;> with_reducible rfl)
      try simp only [Act.put, List.setIfInBounds_toArray, List.set_cons_zero, List.set_cons_succ]
      refine takeH 1 (fun _ _ _ _ _ h => h) (by kernel_rfl) hHeld rfl (by kernel_rfl) (by rfl) (v := ?_) ?_ ?_
      rotate_left
      ((intro wz hz; (try dsimp only at hz); go_simp) <;> with_reducible rfl)
      try simp only [Act.put, List.setIfInBounds_toArray, List.set_cons_zero, List.set_cons_succ]
      refine takeH 2 (fun _ _ _ _ _ h => h) (by kernel_rfl) hHeld rfl (by kernel_rfl) (by rfl) (v := ?_) ?_ ?_
      rotate_left
      ((intro wz hz; (try dsimp only at hz); go_simp) <;> with_reducible rfl)
      try simp only [Act.put, List.setIfInBounds_toArray, List.set_cons_zero, List.set_cons_succ]
      refine takeH 3 (fun _ _ _ _ _ h => h) (by kernel_rfl) hHeld rfl (by kernel_rfl) (by rfl) (v := ?_) ?_ ?_
      rotate_left
      ((intro wz hz; (try dsimp only at hz); go_simp) <;> with_reducible rfl)
      try simp only [Act.put, List.setIfInBounds_toArray, List.set_cons_zero, List.set_cons_succ]
      refine takeH 4 (fun _ _ _ _ _ h => h) (by kernel_rfl) hHeld rfl (by kernel_rfl) (by rfl) (v := ?_) ?_ ?_
      rotate_left
      ((intro wz hz; (try dsimp only at hz); go_simp) <;> with_reducible rfl)
      try simp only [Act.put, List.setIfInBounds_toArray, List.set_cons_zero, List.set_cons_succ]
      refine takeH 5 (fun _ _ _ _ _ h => h) (by kernel_rfl) hHeld rfl (by kernel_rfl) (by rfl) (v := ?_) ?_ ?_
      rotate_left
      ((intro wz hz; (try dsimp only at hz); go_simp) <;> with_reducible rfl)
      try simp only [Act.put, List.setIfInBounds_toArray, List.set_cons_zero, List.set_cons_succ]
      refine takeH 6 (fun _ _ _ _ _ h => h) (by kernel_rfl) hHeld rfl (by kernel_rfl) (by rfl) (v := ?_) ?_ ?_
      rotate_left
      ((intro wz hz; (try dsimp only at hz); go_simp) <;> with_reducible rfl)
      try simp only [Act.put, List.setIfInBounds_toArray, List.set_cons_zero, List.set_cons_succ]
      refine takeH 7 (fun _ _ _ _ _ h => h) (by kernel_rfl) hHeld rfl (by kernel_rfl) (by rfl) (v := ?_) ?_ ?_
      rotate_left
      ((intro wz hz; (try dsimp only at hz); go_simp) <;> with_reducible rfl)
      try simp only [Act.put, List.setIfInBounds_toArray, List.set_cons_zero, List.set_cons_succ]
      refine takeH 8 (fun _ _ _ _ _ h => h) (by kernel_rfl) hHeld rfl (by kernel_rfl) (by rfl) (v := ?_) ?_ ?_
      rotate_left
      ((intro wz hz; (try dsimp only at hz); go_simp) <;> with_reducible rfl)
      try simp only [Act.put, List.setIfInBounds_toArray, List.set_cons_zero, List.set_cons_succ]
      refine stepH 9 (by kernel_rfl) rfl (by rfl) (fun K hK => ?_)
      go_simp
      refine (cS.out _).mono ?_
      rintro e wq' ⟨rfl, rfl⟩
      refine hK.out _ _ ?_ (fun hHeld => ?_)
      · exact hHeld
      clear hK K
      try simp only [Act.put, List.setIfInBounds_toArray, List.set_cons_zero, List.set_cons_succ]
      refine stepH 10 (by kernel_rfl) rfl (by rfl) (fun K hK => ?_)
      go_simp
      refine hK.out _ _ ?_ (fun hHeld => ?_)
      · exact ⟨wcell ca (bAlloc (bDrew (Below.refl _ wr)) (.cells #[.int .u64 c] 31)) hlw, wcell cb (bAlloc (bDrew (Below.refl _ wr)) (.cells #[.int .u64 c] 31)) hlv, (HR.alloc hHeld.2.2 (.cells #[.int .u64 c] 31))⟩
      clear hK K
      try simp only [Act.put, List.setIfInBounds_toArray, List.set_cons_zero, List.set_cons_succ]
      refine stepH 11 (by kernel_rfl) rfl (by rfl) (fun K hK => ?_)
      obtain ⟨v', w2, hap, hO', hb', -⟩ := append_ownU (wr.drew.alloc (.cells #[.int .u64 c] 31)) w.heap.size _ _ [c.toNat] (hO.out.keep (bAlloc (bDrew (Below.refl _ wr)) (.cells #[.int .u64 c] 31)) (Nat.le_refl _)) ⟨wr.heap.size, 0, none⟩ 1 1 rfl (newsU wr.drew c c0) (by rw [hzl]; simp; omega) (by simp; omega)
      rw [hzn] at hO'
      have HO := Lib.hid hO'
      have HN : Hid (HR w w2 []) := Lib.hid ⟨(fun r hr => by cases hr), (HR.alloc (HR.drew H.out) (.cells #[.int .u64 c] 31)).2.trans hb'⟩
      refine wp_appended _ _ _ _ rfl _ _ _ rfl rfl hap ?_
      refine hK.out _ _ ?_ (fun hHeld => ?_)
      · exact ⟨by rw [← hva.out, show i.toNat = j by omega]; exact (hau.below HN.out.2 hab.out) j (by rw [HV1.out.len]; exact hjl), by rw [← hvb.out, show i.toNat = j by omega]; exact (hbu.below HN.out.2 hbb.out) j (by rw [HV2.out.len]; exact hjl), HN.out⟩
      clear hK K
      try simp only [Act.put, List.setIfInBounds_toArray, List.set_cons_zero, List.set_cons_succ]
      refine takeH 12 (fun _ _ _ _ _ h => h) (by kernel_rfl) hHeld rfl (by kernel_rfl) (by rfl) (v := ?_) ?_ ?_
      rotate_left
      ((intro wz hz; (try dsimp only at hz); go_simp) <;> with_reducible rfl)
      try simp only [Act.put, List.setIfInBounds_toArray, List.set_cons_zero, List.set_cons_succ]
      refine wpAnyH_done (by kernel_rfl) (NoPanic.normal ?_) _
      clear hHeld hO' hb' hap hzl hzn hO
      go_wp2_with fail
      go_roundw
      case rel => exact ⟨j + 1, by simp; omega, by omega, HO, HN⟩
      case measure => simp [intOf]; omega
    · obtain rfl : j = len2 := by omega
      have i1 : ¬ i < (j : Int) := by omega
      obtain ⟨ao3, cap3, rfl, hS3⟩ := hO.out.sl
      rw [zip_len]
      have hSz := Lib.hid hS3
      have HW := H
      have HX := Lib.hid (HR.refl wr)
      clear hO H hS3
      go_wp2_with fail
      refine (cA.out _ (bThen HW.out.2 HX.out.2 HW.out.2.size)).mono ?_
      rintro e v2 ⟨rfl, hv2⟩
      have K2 := Lib.hid ((HX.out.next hv2).new #[.int .u64 px, .int .u64 py] 37)
      go_upto_region 10 with fail
      generalize v2.alloc (.cells #[.int .u64 px, .int .u64 py] 37) = u2 at K2 ⊢
      generalize v2.heap.size = b12 at K2 ⊢
      clear hv2 HX
      have c_b12_0 := K2.out.cell (b := b12) (cs := #[.int .u64 px, .int .u64 py]) (t := 37) (by simp) 0 rfl
      have c_b12_1 := K2.out.cell (b := b12) (cs := #[.int .u64 px, .int .u64 py]) (t := 37) (by simp) 1 rfl
      go_wp2_with fail
      go_wp2_with fail
      refine (cB.out _ (bThen HW.out.2 K2.out.2 HW.out.2.size)).mono ?_
      rintro e v3 ⟨rfl, hv3⟩
      have K3 := Lib.hid ((K2.out.next hv3).new #[.int .u64 qx, .int .u64 qy] 37)
      clear c_b12_0 c_b12_1
      go_upto_region 11 with fail
      generalize v3.alloc (.cells #[.int .u64 qx, .int .u64 qy] 37) = u3 at K3 ⊢
      generalize v3.heap.size = b14 at K3 ⊢
      clear hv3 K2
      have c_b14_0 := K3.out.cell (b := b14) (cs := #[.int .u64 qx, .int .u64 qy]) (t := 37) (by simp) 0 rfl
      have c_b14_1 := K3.out.cell (b := b14) (cs := #[.int .u64 qx, .int .u64 qy]) (t := 37) (by simp) 1 rfl
      have c_b12_0 := K3.out.cell (b := b12) (cs := #[.int .u64 px, .int .u64 py]) (t := 37) (by simp) 0 rfl
      have c_b12_1 := K3.out.cell (b := b12) (cs := #[.int .u64 px, .int .u64 py]) (t := 37) (by simp) 1 rfl
      go_wp2_with fail
      go_wp2_with fail
      refine (cT.out _).mono ?_
      rintro e v' ⟨rfl, rfl⟩
      go_wp2_with fail
      refine (cC.out _ (bThen HW.out.2 K3.out.2 HW.out.2.size) _ _ (hSz.out.at K3.out.2)).mono ?_
      rintro e v4 ⟨rfl, hv4⟩
      have K4 := Lib.hid ((K3.out.next hv4).new #[.int .u64 sx, .int .u64 sy] 37)
      clear c_b14_0 c_b14_1 c_b12_0 c_b12_1
      go_upto_region 12 with fail
      generalize v4.alloc (.cells #[.int .u64 sx, .int .u64 sy] 37) = u4 at K4 ⊢
      generalize v4.heap.size = b16 at K4 ⊢
      clear hv4 K3
      have c_b16_0 := K4.out.cell (b := b16) (cs := #[.int .u64 sx, .int .u64 sy]) (t := 37) (by simp) 0 rfl
      have c_b16_1 := K4.out.cell (b := b16) (cs := #[.int .u64 sx, .int .u64 sy]) (t := 37) (by simp) 1 rfl
      have c_b14_0 := K4.out.cell (b := b14) (cs := #[.int .u64 qx, .int .u64 qy]) (t := 37) (by simp) 0 rfl
      have c_b14_1 := K4.out.cell (b := b14) (cs := #[.int .u64 qx, .int .u64 qy]) (t := 37) (by simp) 1 rfl
      have c_b12_0 := K4.out.cell (b := b12) (cs := #[.int .u64 px, .int .u64 py]) (t := 37) (by simp) 0 rfl
      have c_b12_1 := K4.out.cell (b := b12) (cs := #[.int .u64 px, .int .u64 py]) (t := 37) (by simp) 1 rfl
      go_wp2_with fail
      go_wp2_with fail
      clear c_b16_0 c_b16_1 c_b14_0 c_b14_1 c_b12_0 c_b12_1
      refine wp_region_noPanic ?_
      refine wp_region_held_drew (S := fun wq => wq.cell? ⟨b16, 0, none⟩ = some (.int .u64 sx) ∧ wq.cell? ⟨b16, 1, none⟩ = some (.int .u64 sy) ∧ wq.cell? ⟨b14, 0, none⟩ = some (.int .u64 qx) ∧ wq.cell? ⟨b14, 1, none⟩ = some (.int .u64 qy) ∧ wq.cell? ⟨b12, 0, none⟩ = some (.int .u64 px) ∧ wq.cell? ⟨b12, 1, none⟩ = some (.int .u64 py) ∧ HR wr wq [(b16, #[.int .u64 sx, .int .u64 sy], 37), (b14, #[.int .u64 qx, .int .u64 qy], 37), (b12, #[.int .u64 px, .int .u64 py], 37)]) (by kernel_rfl) ?_ (fun hHeld => ?_)
      · have hq0 := HR.drew K4.out
        exact ⟨HR.cell hq0 (b := b16) (cs := #[.int .u64 sx, .int .u64 sy]) (t := 37) (by simp) 0 rfl, HR.cell hq0 (b := b16) (cs := #[.int .u64 sx, .int .u64 sy]) (t := 37) (by simp) 1 rfl, HR.cell hq0 (b := b14) (cs := #[.int .u64 qx, .int .u64 qy]) (t := 37) (by simp) 0 rfl, HR.cell hq0 (b := b14) (cs := #[.int .u64 qx, .int .u64 qy]) (t := 37) (by simp) 1 rfl, HR.cell hq0 (b := b12) (cs := #[.int .u64 px, .int .u64 py]) (t := 37) (by simp) 0 rfl, HR.cell hq0 (b := b12) (cs := #[.int .u64 px, .int .u64 py]) (t := 37) (by simp) 1 rfl, hq0⟩
      refine takeH 0 (fun _ _ _ _ _ h => h) (by kernel_rfl) hHeld rfl (by kernel_rfl) (by rfl) (v := ?_) ?_ ?_
      rotate_left
      ((intro wz hz; (try dsimp only at hz); go_simp) <;> with_reducible rfl)
      try simp only [Act.put, List.setIfInBounds_toArray, List.set_cons_zero, List.set_cons_succ]
      refine takeH 1 (fun _ _ _ _ _ h => h) (by kernel_rfl) hHeld rfl (by kernel_rfl) (by rfl) (v := ?_) ?_ ?_
      rotate_left
      ((intro wz hz; (try dsimp only at hz); go_simp) <;> with_reducible rfl)
      try simp only [Act.put, List.setIfInBounds_toArray, List.set_cons_zero, List.set_cons_succ]
      refine takeH 2 (fun _ _ _ _ _ h => h) (by kernel_rfl) hHeld rfl (by kernel_rfl) (by rfl) (v := ?_) ?_ ?_
      rotate_left
      ((intro wz hz; (try dsimp only at hz); go_simp) <;> with_reducible rfl)
      try simp only [Act.put, List.setIfInBounds_toArray, List.set_cons_zero, List.set_cons_succ]
      refine takeH 3 (fun _ _ _ _ _ h => h) (by kernel_rfl) hHeld rfl (by kernel_rfl) (by rfl) (v := ?_) ?_ ?_
      rotate_left
      ((intro wz hz; (try dsimp only at hz); go_simp) <;> with_reducible rfl)
      try simp only [Act.put, List.setIfInBounds_toArray, List.set_cons_zero, List.set_cons_succ]
      refine takeH 5 (fun _ _ _ _ _ h => h) (by kernel_rfl) hHeld rfl (by kernel_rfl) (by rfl) (v := ?_) ?_ ?_
      rotate_left
      ((intro wz hz; (try dsimp only at hz); go_simp) <;> with_reducible rfl)
      try simp only [Act.put, List.setIfInBounds_toArray, List.set_cons_zero, List.set_cons_succ]
      refine stepH 4 (by kernel_rfl) rfl (by rfl) (fun K hK => ?_)
      go_simp
      refine (cD.out _).mono ?_
      rintro e wc1 ⟨rfl, hbc1⟩
      have hrc1 := HR.next hHeld.2.2.2.2.2.2 hbc1
      refine hK.out _ _ ?_ (fun hHeld => ?_)
      · exact ⟨HR.cell hrc1 (b := b16) (cs := #[.int .u64 sx, .int .u64 sy]) (t := 37) (by simp) 0 rfl, HR.cell hrc1 (b := b16) (cs := #[.int .u64 sx, .int .u64 sy]) (t := 37) (by simp) 1 rfl, HR.cell hrc1 (b := b14) (cs := #[.int .u64 qx, .int .u64 qy]) (t := 37) (by simp) 0 rfl, HR.cell hrc1 (b := b14) (cs := #[.int .u64 qx, .int .u64 qy]) (t := 37) (by simp) 1 rfl, HR.cell hrc1 (b := b12) (cs := #[.int .u64 px, .int .u64 py]) (t := 37) (by simp) 0 rfl, HR.cell hrc1 (b := b12) (cs := #[.int .u64 px, .int .u64 py]) (t := 37) (by simp) 1 rfl, hrc1⟩
      clear hK K
      try simp only [Act.put, List.setIfInBounds_toArray, List.set_cons_zero, List.set_cons_succ]
      refine takeH 6 (fun _ _ _ _ _ h => h) (by kernel_rfl) hHeld rfl (by kernel_rfl) (by rfl) (v := ?_) ?_ ?_
      rotate_left
      ((intro wz hz; (try dsimp only at hz); go_simp) <;> with_reducible rfl)
      try simp only [Act.put, List.setIfInBounds_toArray, List.set_cons_zero, List.set_cons_succ]
      refine takeH 7 (fun _ _ _ _ _ h => h) (by kernel_rfl) hHeld rfl (by kernel_rfl) (by rfl) (v := ?_) ?_ ?_
      rotate_left
      ((intro wz hz; (try dsimp only at hz); go_simp) <;> with_reducible rfl)
      try simp only [Act.put, List.setIfInBounds_toArray, List.set_cons_zero, List.set_cons_succ]
      refine takeH 8 (fun _ _ _ _ _ h => h) (by kernel_rfl) hHeld rfl (by kernel_rfl) (by rfl) (v := ?_) ?_ ?_
      rotate_left
      ((intro wz hz; (try dsimp only at hz); go_simp) <;> with_reducible rfl)
      try simp only [Act.put, List.setIfInBounds_toArray, List.set_cons_zero, List.set_cons_succ]
      refine wpAnyH_done (by kernel_rfl) (NoPanic.normal ?_) _
      have HB := Lib.hid (hHeld.2.2.2.2.2.2)
      clear hHeld K4
      go_wp2_with fail
      go_ret
      exact ⟨rfl, bThen HW.out.2 HB.out.2 HW.out.2.size⟩

end Go.Proofs.YtiffendfojhapaaDoor
