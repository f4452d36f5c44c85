import Derived.Test.YtiffendfojhapaaDoorZWup8
import Derived.Test.YtiffendfojhapaaDoorZVu64
set_option linter.unusedVariables false
set_option linter.unusedSimpArgs false
/- The walk of the law PedersenCommits. -/
namespace Go.Proofs.YtiffendfojhapaaDoor
open Go.RowKit

set_option maxRecDepth 8000 in
set_option maxHeartbeats 40000000 in
theorem walkCommits (w : World) (hG : RowsAt w) (ao : Option Addr) (len cap : Nat) (V : List Nat) (HV0 : U64 len V) (hlc : len ≤ cap) (hcap : cap ≤ 9223372036854775807) (hnA : ao = none → len = 0 ∧ cap = 0) (hbA : 0 < len → ∃ b o, ao = some ⟨b, o, none⟩ ∧ UL w b o V) (x cx cy : Int) (x0 : 0 ≤ x) (x1 : x ≤ 18446744073709551615) (cx0 : 0 ≤ cx) (cy0 : 0 ≤ cy) :
    Calls Tryd.prog 11 #[.slice ao len cap, .int .u64 x, edV cx cy] w fun e w' => e = .returned (.bool true) ∧ Below w.heap.size w w' := by
  have hU := Lib.hid (fun W hw => up8 W (hG.below hw))
  have hS0 := slu_of HV0 hlc hcap hnA hbA
  clear hnA hbA
  have hE := fun W => eqErrC W 5 5
  have hli : (len : Int) ≤ 9223372036854775807 := by have := hS0.cap; omega
  by_cases hlong : 16 < len
  · have h16 : ¬ (len : Int) ≤ 16 := by omega
    have h16' : (16 : Int) < len := by omega
    have h5 : (5 : Int) < len := by omega
    have cC := Lib.hid (fun W => pCommitLong x ao len cap hlong (by omega) W)
    have cO := Lib.hid (fun W => pOpensL cx cy x ao len cap hlong (by omega) W)
    clear hG HV0 hS0 hlong
    go_enter Tryd.func11, Tryd.ntmps11
    go_wp2_with fail
    have H0 := Lib.hid ((HR.refl w).new #[.int .u64 cx, .int .u64 cy] 37)
    generalize w.alloc (.cells #[.int .u64 cx, .int .u64 cy] 37) = w0 at H0 ⊢
    generalize w.heap.size = b5 at H0 ⊢
    refine (hU.out _ H0.out.2).mono ?_
    rintro e w1 ⟨rfl, hb1⟩
    have H1 := Lib.hid (H0.out.next hb1)
    clear hb1 H0
    have c_b5_0 := H1.out.cell (b := b5) (cs := #[.int .u64 cx, .int .u64 cy]) (t := 37) (by simp) 0 rfl
    have c_b5_1 := H1.out.cell (b := b5) (cs := #[.int .u64 cx, .int .u64 cy]) (t := 37) (by simp) 1 rfl
    go_wp2_with fail
    refine (cC.out _).mono ?_
    rintro e v2 ⟨rfl, hv2⟩
    have K2 := Lib.hid ((H1.out.next hv2).new #[.int .u64 0, .int .u64 0] 37)
    clear c_b5_0 c_b5_1
    go_upto_region 5 with fail
    generalize v2.alloc (.cells #[.int .u64 0, .int .u64 0] 37) = u2 at K2 ⊢
    generalize v2.heap.size = b8 at K2 ⊢
    clear hv2 H1
    have c_b8_0 := K2.out.cell (b := b8) (cs := #[.int .u64 0, .int .u64 0]) (t := 37) (by simp) 0 rfl
    have c_b8_1 := K2.out.cell (b := b8) (cs := #[.int .u64 0, .int .u64 0]) (t := 37) (by simp) 1 rfl
    have c_b5_0 := K2.out.cell (b := b5) (cs := #[.int .u64 cx, .int .u64 cy]) (t := 37) (by simp) 0 rfl
    have c_b5_1 := K2.out.cell (b := b5) (cs := #[.int .u64 cx, .int .u64 cy]) (t := 37) (by simp) 1 rfl
    go_wp2_with fail
    refine (cO.out _).mono ?_
    rintro e v3 ⟨rfl, hv3⟩
    have K3 := Lib.hid (K2.out.next hv3)
    clear c_b8_0 c_b8_1 c_b5_0 c_b5_1
    clear hv3 K2
    have c_b8_0 := K3.out.cell (b := b8) (cs := #[.int .u64 0, .int .u64 0]) (t := 37) (by simp) 0 rfl
    have c_b8_1 := K3.out.cell (b := b8) (cs := #[.int .u64 0, .int .u64 0]) (t := 37) (by simp) 1 rfl
    have c_b5_0 := K3.out.cell (b := b5) (cs := #[.int .u64 cx, .int .u64 cy]) (t := 37) (by simp) 0 rfl
    have c_b5_1 := K3.out.cell (b := b5) (cs := #[.int .u64 cx, .int .u64 cy]) (t := 37) (by simp) 1 rfl
    go_wp2_with fail
    go_ret
    exact ⟨rfl, K3.out.2⟩
  by_cases h5 : 5 < len
  · have h16 : (len : Int) ≤ 16 := by omega
    have h5' : (5 : Int) < len := by omega
    have h5c : (5 : Int) ≤ cap := by omega
    have HV := u64_take HV0 (k := 5) (by omega)
    have hS := slu_take hS0 (k := 5) (by rw [HV0.len]; omega)
    obtain ⟨vb, vo, rfl, -, -⟩ := hS0.bl (by rw [HV0.len]; omega)
    clear hS0 HV0
    have hG' := Lib.hid hG
    replace HV := Lib.hid HV
    replace hS := Lib.hid hS
    clear hG
    cases hcm : comN x.toNat (V.take 5) 5 with
    | none =>
      have cC := Lib.hid (fun W (hw : Below w.heap.size w W) => pCommitN x x0 x1 (some ⟨vb, vo, none⟩) 5 cap (V.take 5) HV.out (by omega) hcm W (hS.out.at hw) (hG'.out.below hw))
      have cL := fun W (hw : Below w.heap.size w W) => lCommit x x0 x1 (some ⟨vb, vo, none⟩) 5 cap (V.take 5) HV.out (by omega) W (hS.out.at hw) (hG'.out.below hw)
      rw [hcm] at cL
      change ∀ W, Below w.heap.size w W → Calls Tryd.prog 38 #[.slice (some ⟨vb, vo, none⟩) (5) cap, .int .u64 x] W fun e w' => e = .returned (.tuple #[edV 0 0, .bool false]) ∧ Below W.heap.size W w' at cL
      have cO := Lib.hid (fun W (hw : Below w.heap.size w W) => pOpensN cx cy x (some ⟨vb, vo, none⟩) 5 cap x0 x1 (V.take 5) HV.out (by omega) hcm W (hS.out.at hw) (hG'.out.below hw))
      replace cL := Lib.hid cL
      clear hcm
      go_enter Tryd.func11, Tryd.ntmps11
      go_wp2_with fail
      have H0 := Lib.hid ((HR.refl w).new #[.int .u64 cx, .int .u64 cy] 37)
      generalize w.alloc (.cells #[.int .u64 cx, .int .u64 cy] 37) = w0 at H0 ⊢
      generalize w.heap.size = b5 at H0 ⊢
      refine (hU.out _ H0.out.2).mono ?_
      rintro e w1 ⟨rfl, hb1⟩
      have H1 := Lib.hid (H0.out.next hb1)
      clear hb1 H0
      have c_b5_0 := H1.out.cell (b := b5) (cs := #[.int .u64 cx, .int .u64 cy]) (t := 37) (by simp) 0 rfl
      have c_b5_1 := H1.out.cell (b := b5) (cs := #[.int .u64 cx, .int .u64 cy]) (t := 37) (by simp) 1 rfl
      go_wp2_with fail
      refine (cC.out _ H1.out.2).mono ?_
      rintro e v2 ⟨rfl, hv2⟩
      have K2 := Lib.hid ((H1.out.next hv2).new #[.int .u64 0, .int .u64 0] 37)
      clear c_b5_0 c_b5_1
      go_upto_region 5 with fail
      generalize v2.alloc (.cells #[.int .u64 0, .int .u64 0] 37) = u2 at K2 ⊢
      generalize v2.heap.size = b8 at K2 ⊢
      clear hv2 H1
      have c_b8_0 := K2.out.cell (b := b8) (cs := #[.int .u64 0, .int .u64 0]) (t := 37) (by simp) 0 rfl
      have c_b8_1 := K2.out.cell (b := b8) (cs := #[.int .u64 0, .int .u64 0]) (t := 37) (by simp) 1 rfl
      have c_b5_0 := K2.out.cell (b := b5) (cs := #[.int .u64 cx, .int .u64 cy]) (t := 37) (by simp) 0 rfl
      have c_b5_1 := K2.out.cell (b := b5) (cs := #[.int .u64 cx, .int .u64 cy]) (t := 37) (by simp) 1 rfl
      go_wp2_with fail
      go_wp2_with fail
      refine (cL.out _ K2.out.2).mono ?_
      rintro e v3 ⟨rfl, hv3⟩
      have K3 := Lib.hid ((K2.out.next hv3).new #[.int .u64 0, .int .u64 0] 37)
      clear c_b8_0 c_b8_1 c_b5_0 c_b5_1
      go_upto_region 8 with fail
      generalize v3.alloc (.cells #[.int .u64 0, .int .u64 0] 37) = u3 at K3 ⊢
      generalize v3.heap.size = b10 at K3 ⊢
      clear hv3 K2
      have c_b10_0 := K3.out.cell (b := b10) (cs := #[.int .u64 0, .int .u64 0]) (t := 37) (by simp) 0 rfl
      have c_b10_1 := K3.out.cell (b := b10) (cs := #[.int .u64 0, .int .u64 0]) (t := 37) (by simp) 1 rfl
      have c_b8_0 := K3.out.cell (b := b8) (cs := #[.int .u64 0, .int .u64 0]) (t := 37) (by simp) 0 rfl
      have c_b8_1 := K3.out.cell (b := b8) (cs := #[.int .u64 0, .int .u64 0]) (t := 37) (by simp) 1 rfl
      have c_b5_0 := K3.out.cell (b := b5) (cs := #[.int .u64 cx, .int .u64 cy]) (t := 37) (by simp) 0 rfl
      have c_b5_1 := K3.out.cell (b := b5) (cs := #[.int .u64 cx, .int .u64 cy]) (t := 37) (by simp) 1 rfl
      go_wp2_with fail
      refine (cO.out _ K3.out.2).mono ?_
      rintro e v4 ⟨rfl, hv4⟩
      have K4 := Lib.hid (K3.out.next hv4)
      clear c_b10_0 c_b10_1 c_b8_0 c_b8_1 c_b5_0 c_b5_1
      clear hv4 K3
      have c_b10_0 := K4.out.cell (b := b10) (cs := #[.int .u64 0, .int .u64 0]) (t := 37) (by simp) 0 rfl
      have c_b10_1 := K4.out.cell (b := b10) (cs := #[.int .u64 0, .int .u64 0]) (t := 37) (by simp) 1 rfl
      have c_b8_0 := K4.out.cell (b := b8) (cs := #[.int .u64 0, .int .u64 0]) (t := 37) (by simp) 0 rfl
      have c_b8_1 := K4.out.cell (b := b8) (cs := #[.int .u64 0, .int .u64 0]) (t := 37) (by simp) 1 rfl
      have c_b5_0 := K4.out.cell (b := b5) (cs := #[.int .u64 cx, .int .u64 cy]) (t := 37) (by simp) 0 rfl
      have c_b5_1 := K4.out.cell (b := b5) (cs := #[.int .u64 cx, .int .u64 cy]) (t := 37) (by simp) 1 rfl
      go_wp2_with fail
      go_ret
      exact ⟨rfl, K4.out.2⟩
    | some q =>
      obtain ⟨qx, qy, -, -, -, -, hvq, -⟩ := coordsN q
      have cC := fun W (hw : Below w.heap.size w W) => pCommitY x x0 x1 (some ⟨vb, vo, none⟩) 5 cap (V.take 5) HV.out (by omega) q hcm W (hS.out.at hw) (hG'.out.below hw)
      have cL := fun W (hw : Below w.heap.size w W) => lCommit x x0 x1 (some ⟨vb, vo, none⟩) 5 cap (V.take 5) HV.out (by omega) W (hS.out.at hw) (hG'.out.below hw)
      rw [hcm] at cL
      change ∀ W, Below w.heap.size w W → Calls Tryd.prog 38 #[.slice (some ⟨vb, vo, none⟩) (5) cap, .int .u64 x] W fun e w' => e = .returned (.tuple #[ptV q, .bool true]) ∧ Below W.heap.size W w' at cL
      rw [hvq] at cC cL
      have cOq := Lib.hid (fun W (hw : Below w.heap.size w W) => pOpensY qx qy x (some ⟨vb, vo, none⟩) 5 cap x0 x1 (V.take 5) HV.out (by omega) q hcm hvq W (hS.out.at hw) (hG'.out.below hw))
      replace cC := Lib.hid cC
      replace cL := Lib.hid cL
      by_cases hc : qx = cx ∧ qy = cy
      · obtain ⟨rfl, rfl⟩ := hc
        clear hcm hvq
        go_enter Tryd.func11, Tryd.ntmps11
        go_wp2_with fail
        have H0 := Lib.hid ((HR.refl w).new #[.int .u64 qx, .int .u64 qy] 37)
        generalize w.alloc (.cells #[.int .u64 qx, .int .u64 qy] 37) = w0 at H0 ⊢
        generalize w.heap.size = b5 at H0 ⊢
        refine (hU.out _ H0.out.2).mono ?_
        rintro e w1 ⟨rfl, hb1⟩
        have H1 := Lib.hid (H0.out.next hb1)
        clear hb1 H0
        have c_b5_0 := H1.out.cell (b := b5) (cs := #[.int .u64 qx, .int .u64 qy]) (t := 37) (by simp) 0 rfl
        have c_b5_1 := H1.out.cell (b := b5) (cs := #[.int .u64 qx, .int .u64 qy]) (t := 37) (by simp) 1 rfl
        go_wp2_with fail
        refine (cC.out _ H1.out.2).mono ?_
        rintro e v2 ⟨rfl, hv2⟩
        have K2 := Lib.hid ((H1.out.next hv2).new #[.int .u64 qx, .int .u64 qy] 37)
        clear c_b5_0 c_b5_1
        go_upto_region 5 with fail
        generalize v2.alloc (.cells #[.int .u64 qx, .int .u64 qy] 37) = u2 at K2 ⊢
        generalize v2.heap.size = b8 at K2 ⊢
        clear hv2 H1
        have c_b8_0 := K2.out.cell (b := b8) (cs := #[.int .u64 qx, .int .u64 qy]) (t := 37) (by simp) 0 rfl
        have c_b8_1 := K2.out.cell (b := b8) (cs := #[.int .u64 qx, .int .u64 qy]) (t := 37) (by simp) 1 rfl
        have c_b5_0 := K2.out.cell (b := b5) (cs := #[.int .u64 qx, .int .u64 qy]) (t := 37) (by simp) 0 rfl
        have c_b5_1 := K2.out.cell (b := b5) (cs := #[.int .u64 qx, .int .u64 qy]) (t := 37) (by simp) 1 rfl
        go_wp2_with fail
        go_wp2_with fail
        refine (cL.out _ K2.out.2).mono ?_
        rintro e v3 ⟨rfl, hv3⟩
        have K3 := Lib.hid ((K2.out.next hv3).new #[.int .u64 qx, .int .u64 qy] 37)
        clear c_b8_0 c_b8_1 c_b5_0 c_b5_1
        go_upto_region 8 with fail
        generalize v3.alloc (.cells #[.int .u64 qx, .int .u64 qy] 37) = u3 at K3 ⊢
        generalize v3.heap.size = b10 at K3 ⊢
        clear hv3 K2
        have c_b10_0 := K3.out.cell (b := b10) (cs := #[.int .u64 qx, .int .u64 qy]) (t := 37) (by simp) 0 rfl
        have c_b10_1 := K3.out.cell (b := b10) (cs := #[.int .u64 qx, .int .u64 qy]) (t := 37) (by simp) 1 rfl
        have c_b8_0 := K3.out.cell (b := b8) (cs := #[.int .u64 qx, .int .u64 qy]) (t := 37) (by simp) 0 rfl
        have c_b8_1 := K3.out.cell (b := b8) (cs := #[.int .u64 qx, .int .u64 qy]) (t := 37) (by simp) 1 rfl
        have c_b5_0 := K3.out.cell (b := b5) (cs := #[.int .u64 qx, .int .u64 qy]) (t := 37) (by simp) 0 rfl
        have c_b5_1 := K3.out.cell (b := b5) (cs := #[.int .u64 qx, .int .u64 qy]) (t := 37) (by simp) 1 rfl
        go_wp2_with fail
        clear c_b10_0 c_b10_1 c_b8_0 c_b8_1 c_b5_0 c_b5_1
        go_wp2_with fail
        refine wp_region_noPanic ?_
        refine wp_region_held_drew (S := fun wq => wq.cell? ⟨b10, 0, none⟩ = some (.int .u64 qx) ∧ wq.cell? ⟨b10, 1, none⟩ = some (.int .u64 qy) ∧ wq.cell? ⟨b8, 0, none⟩ = some (.int .u64 qx) ∧ wq.cell? ⟨b8, 1, none⟩ = some (.int .u64 qy) ∧ wq.cell? ⟨b5, 0, none⟩ = some (.int .u64 qx) ∧ wq.cell? ⟨b5, 1, none⟩ = some (.int .u64 qy) ∧ HR w wq [(b10, #[.int .u64 qx, .int .u64 qy], 37), (b8, #[.int .u64 qx, .int .u64 qy], 37), (b5, #[.int .u64 qx, .int .u64 qy], 37)]) (by kernel_rfl) ?_ (fun hHeld => ?_)
        · have hq0 := HR.drew K3.out
          exact ⟨HR.cell hq0 (b := b10) (cs := #[.int .u64 qx, .int .u64 qy]) (t := 37) (by simp) 0 rfl, HR.cell hq0 (b := b10) (cs := #[.int .u64 qx, .int .u64 qy]) (t := 37) (by simp) 1 rfl, HR.cell hq0 (b := b8) (cs := #[.int .u64 qx, .int .u64 qy]) (t := 37) (by simp) 0 rfl, HR.cell hq0 (b := b8) (cs := #[.int .u64 qx, .int .u64 qy]) (t := 37) (by simp) 1 rfl, HR.cell hq0 (b := b5) (cs := #[.int .u64 qx, .int .u64 qy]) (t := 37) (by simp) 0 rfl, HR.cell hq0 (b := b5) (cs := #[.int .u64 qx, .int .u64 qy]) (t := 37) (by simp) 1 rfl, hq0⟩
        refine takeH 0 (fun _ _ _ _ _ h => h) (by kernel_rfl) hHeld rfl (by kernel_rfl) (by rfl) (v := ?_) ?_ ?_
        rotate_left
        ((intro wz hz; (try dsimp only at hz); go_simp) <;> with_reducible rfl)
        try simp only [Act.put, List.setIfInBounds_toArray, List.set_cons_zero, List.set_cons_succ]
        refine takeH 1 (fun _ _ _ _ _ h => h) (by kernel_rfl) hHeld rfl (by kernel_rfl) (by rfl) (v := ?_) ?_ ?_
        rotate_left
        ((intro wz hz; (try dsimp only at hz); go_simp) <;> with_reducible rfl)
        try simp only [Act.put, List.setIfInBounds_toArray, List.set_cons_zero, List.set_cons_succ]
        refine takeH 2 (fun _ _ _ _ _ h => h) (by kernel_rfl) hHeld rfl (by kernel_rfl) (by rfl) (v := ?_) ?_ ?_
        rotate_left
        ((intro wz hz; (try dsimp only at hz); go_simp) <;> with_reducible rfl)
        try simp only [Act.put, List.setIfInBounds_toArray, List.set_cons_zero, List.set_cons_succ]
        refine takeH 3 (fun _ _ _ _ _ h => h) (by kernel_rfl) hHeld rfl (by kernel_rfl) (by rfl) (v := ?_) ?_ ?_
        rotate_left
        ((intro wz hz; (try dsimp only at hz); go_simp) <;> with_reducible rfl)
        try simp only [Act.put, List.setIfInBounds_toArray, List.set_cons_zero, List.set_cons_succ]
        refine takeH 4 (fun _ _ _ _ _ h => h) (by kernel_rfl) hHeld rfl (by kernel_rfl) (by rfl) (v := ?_) ?_ ?_
        rotate_left
        ((intro wz hz; (try dsimp only at hz); go_simp) <;> with_reducible rfl)
        try simp only [Act.put, List.setIfInBounds_toArray, List.set_cons_zero, List.set_cons_succ]
        refine takeH 5 (fun _ _ _ _ _ h => h) (by kernel_rfl) hHeld rfl (by kernel_rfl) (by rfl) (v := ?_) ?_ ?_
        rotate_left
        ((intro wz hz; (try dsimp only at hz); go_simp) <;> with_reducible rfl)
        try simp only [Act.put, List.setIfInBounds_toArray, List.set_cons_zero, List.set_cons_succ]
        refine takeH 6 (fun _ _ _ _ _ h => h) (by kernel_rfl) hHeld rfl (by kernel_rfl) (by rfl) (v := ?_) ?_ ?_
        rotate_left
        ((intro wz hz; (try dsimp only at hz); go_simp) <;> with_reducible rfl)
        try simp only [Act.put, List.setIfInBounds_toArray, List.set_cons_zero, List.set_cons_succ]
        refine takeH 7 (fun _ _ _ _ _ h => h) (by kernel_rfl) hHeld rfl (by kernel_rfl) (by rfl) (v := ?_) ?_ ?_
        rotate_left
        ((intro wz hz; (try dsimp only at hz); go_simp) <;> with_reducible rfl)
        try simp only [Act.put, List.setIfInBounds_toArray, List.set_cons_zero, List.set_cons_succ]
        refine takeH 8 (fun _ _ _ _ _ h => h) (by kernel_rfl) hHeld rfl (by kernel_rfl) (by rfl) (v := ?_) ?_ ?_
        rotate_left
        ((intro wz hz; (try dsimp only at hz); go_simp) <;> with_reducible rfl)
        try simp only [Act.put, List.setIfInBounds_toArray, List.set_cons_zero, List.set_cons_succ]
        refine takeH 9 (fun _ _ _ _ _ h => h) (by kernel_rfl) hHeld rfl (by kernel_rfl) (by rfl) (v := ?_) ?_ ?_
        rotate_left
        ((intro wz hz; (try dsimp only at hz); go_simp) <;> with_reducible rfl)
        try simp only [Act.put, List.setIfInBounds_toArray, List.set_cons_zero, List.set_cons_succ]
        refine takeH 10 (fun _ _ _ _ _ h => h) (by kernel_rfl) hHeld rfl (by kernel_rfl) (by rfl) (v := ?_) ?_ ?_
        rotate_left
        ((intro wz hz; (try dsimp only at hz); go_simp) <;> with_reducible rfl)
        try simp only [Act.put, List.setIfInBounds_toArray, List.set_cons_zero, List.set_cons_succ]
        refine takeH 11 (fun _ _ _ _ _ h => h) (by kernel_rfl) hHeld rfl (by kernel_rfl) (by rfl) (v := ?_) ?_ ?_
        rotate_left
        ((intro wz hz; (try dsimp only at hz); go_simp) <;> with_reducible rfl)
        try simp only [Act.put, List.setIfInBounds_toArray, List.set_cons_zero, List.set_cons_succ]
        refine takeH 12 (fun _ _ _ _ _ h => h) (by kernel_rfl) hHeld rfl (by kernel_rfl) (by rfl) (v := ?_) ?_ ?_
        rotate_left
        ((intro wz hz; (try dsimp only at hz); go_simp) <;> with_reducible rfl)
        try simp only [Act.put, List.setIfInBounds_toArray, List.set_cons_zero, List.set_cons_succ]
        refine takeH 13 (fun _ _ _ _ _ h => h) (by kernel_rfl) hHeld rfl (by kernel_rfl) (by rfl) (v := ?_) ?_ ?_
        rotate_left
        ((intro wz hz; (try dsimp only at hz); go_simp) <;> with_reducible rfl)
        try simp only [Act.put, List.setIfInBounds_toArray, List.set_cons_zero, List.set_cons_succ]
        refine stepH 14 (by kernel_rfl) rfl (by rfl) (fun K hK => ?_)
        go_simp
        refine (cOq.out _ hHeld.2.2.2.2.2.2.2).mono ?_
        rintro e wc1 ⟨rfl, hbc1⟩
        have hrc1 := HR.next hHeld.2.2.2.2.2.2 hbc1
        refine hK.out _ _ ?_ (fun hHeld => ?_)
        · exact ⟨HR.cell hrc1 (b := b10) (cs := #[.int .u64 qx, .int .u64 qy]) (t := 37) (by simp) 0 rfl, HR.cell hrc1 (b := b10) (cs := #[.int .u64 qx, .int .u64 qy]) (t := 37) (by simp) 1 rfl, HR.cell hrc1 (b := b8) (cs := #[.int .u64 qx, .int .u64 qy]) (t := 37) (by simp) 0 rfl, HR.cell hrc1 (b := b8) (cs := #[.int .u64 qx, .int .u64 qy]) (t := 37) (by simp) 1 rfl, HR.cell hrc1 (b := b5) (cs := #[.int .u64 qx, .int .u64 qy]) (t := 37) (by simp) 0 rfl, HR.cell hrc1 (b := b5) (cs := #[.int .u64 qx, .int .u64 qy]) (t := 37) (by simp) 1 rfl, hrc1⟩
        clear hK K
        try simp only [Act.put, List.setIfInBounds_toArray, List.set_cons_zero, List.set_cons_succ]
        refine takeH 15 (fun _ _ _ _ _ h => h) (by kernel_rfl) hHeld rfl (by kernel_rfl) (by rfl) (v := ?_) ?_ ?_
        rotate_left
        ((intro wz hz; (try dsimp only at hz); go_simp) <;> with_reducible rfl)
        try simp only [Act.put, List.setIfInBounds_toArray, List.set_cons_zero, List.set_cons_succ]
        refine takeH 16 (fun _ _ _ _ _ h => h) (by kernel_rfl) hHeld rfl (by kernel_rfl) (by rfl) (v := ?_) ?_ ?_
        rotate_left
        ((intro wz hz; (try dsimp only at hz); go_simp) <;> with_reducible rfl)
        try simp only [Act.put, List.setIfInBounds_toArray, List.set_cons_zero, List.set_cons_succ]
        refine takeH 17 (fun _ _ _ _ _ h => h) (by kernel_rfl) hHeld rfl (by kernel_rfl) (by rfl) (v := ?_) ?_ ?_
        rotate_left
        ((intro wz hz; (try dsimp only at hz); go_simp) <;> with_reducible rfl)
        try simp only [Act.put, List.setIfInBounds_toArray, List.set_cons_zero, List.set_cons_succ]
        refine takeH 18 (fun _ _ _ _ _ h => h) (by kernel_rfl) hHeld rfl (by kernel_rfl) (by rfl) (v := ?_) ?_ ?_
        rotate_left
        ((intro wz hz; (try dsimp only at hz); go_simp) <;> with_reducible rfl)
        try simp only [Act.put, List.setIfInBounds_toArray, List.set_cons_zero, List.set_cons_succ]
        refine takeH 19 (fun _ _ _ _ _ h => h) (by kernel_rfl) hHeld rfl (by kernel_rfl) (by rfl) (v := ?_) ?_ ?_
        rotate_left
        ((intro wz hz; (try dsimp only at hz); go_simp) <;> with_reducible rfl)
        try simp only [Act.put, List.setIfInBounds_toArray, List.set_cons_zero, List.set_cons_succ]
        refine takeH 21 (fun _ _ _ _ _ h => h) (by kernel_rfl) hHeld rfl (by kernel_rfl) (by rfl) (v := ?_) ?_ ?_
        rotate_left
        ((intro wz hz; (try dsimp only at hz); go_simp) <;> with_reducible rfl)
        try simp only [Act.put, List.setIfInBounds_toArray, List.set_cons_zero, List.set_cons_succ]
        refine takeH 22 (fun _ _ _ _ _ h => h) (by kernel_rfl) hHeld rfl (by kernel_rfl) (by rfl) (v := ?_) ?_ ?_
        rotate_left
        ((intro wz hz; (try dsimp only at hz); go_simp) <;> with_reducible rfl)
        try simp only [Act.put, List.setIfInBounds_toArray, List.set_cons_zero, List.set_cons_succ]
        refine takeH 23 (fun _ _ _ _ _ h => h) (by kernel_rfl) hHeld rfl (by kernel_rfl) (by rfl) (v := ?_) ?_ ?_
        rotate_left
        ((intro wz hz; (try dsimp only at hz); go_simp) <;> with_reducible rfl)
        try simp only [Act.put, List.setIfInBounds_toArray, List.set_cons_zero, List.set_cons_succ]
        refine stepH 20 (by kernel_rfl) rfl (by rfl) (fun K hK => ?_)
        go_simp
        refine (cOq.out _ hHeld.2.2.2.2.2.2.2).mono ?_
        rintro e wc2 ⟨rfl, hbc2⟩
        have hrc2 := HR.next hHeld.2.2.2.2.2.2 hbc2
        refine hK.out _ _ ?_ (fun hHeld => ?_)
        · exact ⟨HR.cell hrc2 (b := b10) (cs := #[.int .u64 qx, .int .u64 qy]) (t := 37) (by simp) 0 rfl, HR.cell hrc2 (b := b10) (cs := #[.int .u64 qx, .int .u64 qy]) (t := 37) (by simp) 1 rfl, HR.cell hrc2 (b := b8) (cs := #[.int .u64 qx, .int .u64 qy]) (t := 37) (by simp) 0 rfl, HR.cell hrc2 (b := b8) (cs := #[.int .u64 qx, .int .u64 qy]) (t := 37) (by simp) 1 rfl, HR.cell hrc2 (b := b5) (cs := #[.int .u64 qx, .int .u64 qy]) (t := 37) (by simp) 0 rfl, HR.cell hrc2 (b := b5) (cs := #[.int .u64 qx, .int .u64 qy]) (t := 37) (by simp) 1 rfl, hrc2⟩
        clear hK K
        try simp only [Act.put, List.setIfInBounds_toArray, List.set_cons_zero, List.set_cons_succ]
        refine takeH 24 (fun _ _ _ _ _ h => h) (by kernel_rfl) hHeld rfl (by kernel_rfl) (by rfl) (v := ?_) ?_ ?_
        rotate_left
        ((intro wz hz; (try dsimp only at hz); go_simp) <;> with_reducible rfl)
        try simp only [Act.put, List.setIfInBounds_toArray, List.set_cons_zero, List.set_cons_succ]
        refine takeH 25 (fun _ _ _ _ _ h => h) (by kernel_rfl) hHeld rfl (by kernel_rfl) (by rfl) (v := ?_) ?_ ?_
        rotate_left
        ((intro wz hz; (try dsimp only at hz); go_simp) <;> with_reducible rfl)
        try simp only [Act.put, List.setIfInBounds_toArray, List.set_cons_zero, List.set_cons_succ]
        refine takeH 26 (fun _ _ _ _ _ h => h) (by kernel_rfl) hHeld rfl (by kernel_rfl) (by rfl) (v := ?_) ?_ ?_
        rotate_left
        ((intro wz hz; (try dsimp only at hz); go_simp) <;> with_reducible rfl)
        try simp only [Act.put, List.setIfInBounds_toArray, List.set_cons_zero, List.set_cons_succ]
        refine wpAnyH_done (by kernel_rfl) (NoPanic.normal ?_) _
        have HB := Lib.hid (hHeld.2.2.2.2.2.2)
        clear hHeld K3
        go_wp2_with fail
        go_ret
        exact ⟨rfl, HB.out.2⟩
      · have cO := Lib.hid (fun W (hw : Below w.heap.size w W) => pOpensX cx cy x (some ⟨vb, vo, none⟩) 5 cap x0 x1 (V.take 5) HV.out (by omega) q hcm qx qy hvq hc W (hS.out.at hw) (hG'.out.below hw))
        clear hcm hvq
        replace hc := Lib.hid hc
        go_enter Tryd.func11, Tryd.ntmps11
        go_wp2_with fail
        have H0 := Lib.hid ((HR.refl w).new #[.int .u64 cx, .int .u64 cy] 37)
        generalize w.alloc (.cells #[.int .u64 cx, .int .u64 cy] 37) = w0 at H0 ⊢
        generalize w.heap.size = b5 at H0 ⊢
        refine (hU.out _ H0.out.2).mono ?_
        rintro e w1 ⟨rfl, hb1⟩
        have H1 := Lib.hid (H0.out.next hb1)
        clear hb1 H0
        have c_b5_0 := H1.out.cell (b := b5) (cs := #[.int .u64 cx, .int .u64 cy]) (t := 37) (by simp) 0 rfl
        have c_b5_1 := H1.out.cell (b := b5) (cs := #[.int .u64 cx, .int .u64 cy]) (t := 37) (by simp) 1 rfl
        go_wp2_with fail
        refine (cC.out _ H1.out.2).mono ?_
        rintro e v2 ⟨rfl, hv2⟩
        have K2 := Lib.hid ((H1.out.next hv2).new #[.int .u64 qx, .int .u64 qy] 37)
        clear c_b5_0 c_b5_1
        go_upto_region 5 with fail
        generalize v2.alloc (.cells #[.int .u64 qx, .int .u64 qy] 37) = u2 at K2 ⊢
        generalize v2.heap.size = b8 at K2 ⊢
        clear hv2 H1
        have c_b8_0 := K2.out.cell (b := b8) (cs := #[.int .u64 qx, .int .u64 qy]) (t := 37) (by simp) 0 rfl
        have c_b8_1 := K2.out.cell (b := b8) (cs := #[.int .u64 qx, .int .u64 qy]) (t := 37) (by simp) 1 rfl
        have c_b5_0 := K2.out.cell (b := b5) (cs := #[.int .u64 cx, .int .u64 cy]) (t := 37) (by simp) 0 rfl
        have c_b5_1 := K2.out.cell (b := b5) (cs := #[.int .u64 cx, .int .u64 cy]) (t := 37) (by simp) 1 rfl
        go_wp2_with fail
        go_wp2_with fail
        refine (cL.out _ K2.out.2).mono ?_
        rintro e v3 ⟨rfl, hv3⟩
        have K3 := Lib.hid ((K2.out.next hv3).new #[.int .u64 qx, .int .u64 qy] 37)
        clear c_b8_0 c_b8_1 c_b5_0 c_b5_1
        go_upto_region 8 with fail
        generalize v3.alloc (.cells #[.int .u64 qx, .int .u64 qy] 37) = u3 at K3 ⊢
        generalize v3.heap.size = b10 at K3 ⊢
        clear hv3 K2
        have c_b10_0 := K3.out.cell (b := b10) (cs := #[.int .u64 qx, .int .u64 qy]) (t := 37) (by simp) 0 rfl
        have c_b10_1 := K3.out.cell (b := b10) (cs := #[.int .u64 qx, .int .u64 qy]) (t := 37) (by simp) 1 rfl
        have c_b8_0 := K3.out.cell (b := b8) (cs := #[.int .u64 qx, .int .u64 qy]) (t := 37) (by simp) 0 rfl
        have c_b8_1 := K3.out.cell (b := b8) (cs := #[.int .u64 qx, .int .u64 qy]) (t := 37) (by simp) 1 rfl
        have c_b5_0 := K3.out.cell (b := b5) (cs := #[.int .u64 cx, .int .u64 cy]) (t := 37) (by simp) 0 rfl
        have c_b5_1 := K3.out.cell (b := b5) (cs := #[.int .u64 cx, .int .u64 cy]) (t := 37) (by simp) 1 rfl
        go_wp2_with fail
        clear c_b10_0 c_b10_1 c_b8_0 c_b8_1 c_b5_0 c_b5_1
        go_wp2_with fail
        refine wp_region_noPanic ?_
        refine wp_region_held_drew (S := fun wq => wq.cell? ⟨b10, 0, none⟩ = some (.int .u64 qx) ∧ wq.cell? ⟨b10, 1, none⟩ = some (.int .u64 qy) ∧ wq.cell? ⟨b8, 0, none⟩ = some (.int .u64 qx) ∧ wq.cell? ⟨b8, 1, none⟩ = some (.int .u64 qy) ∧ wq.cell? ⟨b5, 0, none⟩ = some (.int .u64 cx) ∧ wq.cell? ⟨b5, 1, none⟩ = some (.int .u64 cy) ∧ HR w wq [(b10, #[.int .u64 qx, .int .u64 qy], 37), (b8, #[.int .u64 qx, .int .u64 qy], 37), (b5, #[.int .u64 cx, .int .u64 cy], 37)]) (by kernel_rfl) ?_ (fun hHeld => ?_)
        · have hq0 := HR.drew K3.out
          exact ⟨HR.cell hq0 (b := b10) (cs := #[.int .u64 qx, .int .u64 qy]) (t := 37) (by simp) 0 rfl, HR.cell hq0 (b := b10) (cs := #[.int .u64 qx, .int .u64 qy]) (t := 37) (by simp) 1 rfl, HR.cell hq0 (b := b8) (cs := #[.int .u64 qx, .int .u64 qy]) (t := 37) (by simp) 0 rfl, HR.cell hq0 (b := b8) (cs := #[.int .u64 qx, .int .u64 qy]) (t := 37) (by simp) 1 rfl, HR.cell hq0 (b := b5) (cs := #[.int .u64 cx, .int .u64 cy]) (t := 37) (by simp) 0 rfl, HR.cell hq0 (b := b5) (cs := #[.int .u64 cx, .int .u64 cy]) (t := 37) (by simp) 1 rfl, hq0⟩
        refine takeH 0 (fun _ _ _ _ _ h => h) (by kernel_rfl) hHeld rfl (by kernel_rfl) (by rfl) (v := ?_) ?_ ?_
        rotate_left
        ((intro wz hz; (try dsimp only at hz); go_simp) <;> with_reducible rfl)
        try simp only [Act.put, List.setIfInBounds_toArray, List.set_cons_zero, List.set_cons_succ]
        refine takeH 1 (fun _ _ _ _ _ h => h) (by kernel_rfl) hHeld rfl (by kernel_rfl) (by rfl) (v := ?_) ?_ ?_
        rotate_left
        ((intro wz hz; (try dsimp only at hz); go_simp) <;> with_reducible rfl)
        try simp only [Act.put, List.setIfInBounds_toArray, List.set_cons_zero, List.set_cons_succ]
        refine takeH 2 (fun _ _ _ _ _ h => h) (by kernel_rfl) hHeld rfl (by kernel_rfl) (by rfl) (v := ?_) ?_ ?_
        rotate_left
        ((intro wz hz; (try dsimp only at hz); go_simp) <;> with_reducible rfl)
        try simp only [Act.put, List.setIfInBounds_toArray, List.set_cons_zero, List.set_cons_succ]
        refine takeH 3 (fun _ _ _ _ _ h => h) (by kernel_rfl) hHeld rfl (by kernel_rfl) (by rfl) (v := ?_) ?_ ?_
        rotate_left
        ((intro wz hz; (try dsimp only at hz); go_simp) <;> with_reducible rfl)
        try simp only [Act.put, List.setIfInBounds_toArray, List.set_cons_zero, List.set_cons_succ]
        refine takeH 4 (fun _ _ _ _ _ h => h) (by kernel_rfl) hHeld rfl (by kernel_rfl) (by rfl) (v := ?_) ?_ ?_
        rotate_left
        ((intro wz hz; (try dsimp only at hz); go_simp) <;> with_reducible rfl)
        try simp only [Act.put, List.setIfInBounds_toArray, List.set_cons_zero, List.set_cons_succ]
        refine takeH 5 (fun _ _ _ _ _ h => h) (by kernel_rfl) hHeld rfl (by kernel_rfl) (by rfl) (v := ?_) ?_ ?_
        rotate_left
        ((intro wz hz; (try dsimp only at hz); go_simp) <;> with_reducible rfl)
        try simp only [Act.put, List.setIfInBounds_toArray, List.set_cons_zero, List.set_cons_succ]
        refine takeH 6 (fun _ _ _ _ _ h => h) (by kernel_rfl) hHeld rfl (by kernel_rfl) (by rfl) (v := ?_) ?_ ?_
        rotate_left
        ((intro wz hz; (try dsimp only at hz); go_simp) <;> with_reducible rfl)
        try simp only [Act.put, List.setIfInBounds_toArray, List.set_cons_zero, List.set_cons_succ]
        refine takeH 7 (fun _ _ _ _ _ h => h) (by kernel_rfl) hHeld rfl (by kernel_rfl) (by rfl) (v := ?_) ?_ ?_
        rotate_left
        ((intro wz hz; (try dsimp only at hz); go_simp) <;> with_reducible rfl)
        try simp only [Act.put, List.setIfInBounds_toArray, List.set_cons_zero, List.set_cons_succ]
        refine takeH 8 (fun _ _ _ _ _ h => h) (by kernel_rfl) hHeld rfl (by kernel_rfl) (by rfl) (v := ?_) ?_ ?_
        rotate_left
        ((intro wz hz; (try dsimp only at hz); go_simp) <;> with_reducible rfl)
        try simp only [Act.put, List.setIfInBounds_toArray, List.set_cons_zero, List.set_cons_succ]
        refine takeH 9 (fun _ _ _ _ _ h => h) (by kernel_rfl) hHeld rfl (by kernel_rfl) (by rfl) (v := ?_) ?_ ?_
        rotate_left
        ((intro wz hz; (try dsimp only at hz); go_simp) <;> with_reducible rfl)
        try simp only [Act.put, List.setIfInBounds_toArray, List.set_cons_zero, List.set_cons_succ]
        refine takeH 10 (fun _ _ _ _ _ h => h) (by kernel_rfl) hHeld rfl (by kernel_rfl) (by rfl) (v := ?_) ?_ ?_
        rotate_left
        ((intro wz hz; (try dsimp only at hz); go_simp) <;> with_reducible rfl)
        try simp only [Act.put, List.setIfInBounds_toArray, List.set_cons_zero, List.set_cons_succ]
        refine takeH 11 (fun _ _ _ _ _ h => h) (by kernel_rfl) hHeld rfl (by kernel_rfl) (by rfl) (v := ?_) ?_ ?_
        rotate_left
        ((intro wz hz; (try dsimp only at hz); go_simp) <;> with_reducible rfl)
        try simp only [Act.put, List.setIfInBounds_toArray, List.set_cons_zero, List.set_cons_succ]
        refine takeH 12 (fun _ _ _ _ _ h => h) (by kernel_rfl) hHeld rfl (by kernel_rfl) (by rfl) (v := ?_) ?_ ?_
        rotate_left
        ((intro wz hz; (try dsimp only at hz); go_simp) <;> with_reducible rfl)
        try simp only [Act.put, List.setIfInBounds_toArray, List.set_cons_zero, List.set_cons_succ]
        refine takeH 13 (fun _ _ _ _ _ h => h) (by kernel_rfl) hHeld rfl (by kernel_rfl) (by rfl) (v := ?_) ?_ ?_
        rotate_left
        ((intro wz hz; (try dsimp only at hz); go_simp) <;> with_reducible rfl)
        try simp only [Act.put, List.setIfInBounds_toArray, List.set_cons_zero, List.set_cons_succ]
        refine stepH 14 (by kernel_rfl) rfl (by rfl) (fun K hK => ?_)
        go_simp
        refine (cOq.out _ hHeld.2.2.2.2.2.2.2).mono ?_
        rintro e wc1 ⟨rfl, hbc1⟩
        have hrc1 := HR.next hHeld.2.2.2.2.2.2 hbc1
        refine hK.out _ _ ?_ (fun hHeld => ?_)
        · exact ⟨HR.cell hrc1 (b := b10) (cs := #[.int .u64 qx, .int .u64 qy]) (t := 37) (by simp) 0 rfl, HR.cell hrc1 (b := b10) (cs := #[.int .u64 qx, .int .u64 qy]) (t := 37) (by simp) 1 rfl, HR.cell hrc1 (b := b8) (cs := #[.int .u64 qx, .int .u64 qy]) (t := 37) (by simp) 0 rfl, HR.cell hrc1 (b := b8) (cs := #[.int .u64 qx, .int .u64 qy]) (t := 37) (by simp) 1 rfl, HR.cell hrc1 (b := b5) (cs := #[.int .u64 cx, .int .u64 cy]) (t := 37) (by simp) 0 rfl, HR.cell hrc1 (b := b5) (cs := #[.int .u64 cx, .int .u64 cy]) (t := 37) (by simp) 1 rfl, hrc1⟩
        clear hK K
        try simp only [Act.put, List.setIfInBounds_toArray, List.set_cons_zero, List.set_cons_succ]
        refine takeH 15 (fun _ _ _ _ _ h => h) (by kernel_rfl) hHeld rfl (by kernel_rfl) (by rfl) (v := ?_) ?_ ?_
        rotate_left
        ((intro wz hz; (try dsimp only at hz); go_simp) <;> with_reducible rfl)
        try simp only [Act.put, List.setIfInBounds_toArray, List.set_cons_zero, List.set_cons_succ]
        refine takeH 16 (fun _ _ _ _ _ h => h) (by kernel_rfl) hHeld rfl (by kernel_rfl) (by rfl) (v := ?_) ?_ ?_
        rotate_left
        ((intro wz hz; (try dsimp only at hz); go_simp) <;> with_reducible rfl)
        try simp only [Act.put, List.setIfInBounds_toArray, List.set_cons_zero, List.set_cons_succ]
        refine takeH 17 (fun _ _ _ _ _ h => h) (by kernel_rfl) hHeld rfl (by kernel_rfl) (by rfl) (v := ?_) ?_ ?_
        rotate_left
        ((intro wz hz; (try dsimp only at hz); go_simp) <;> with_reducible rfl)
        try simp only [Act.put, List.setIfInBounds_toArray, List.set_cons_zero, List.set_cons_succ]
        refine takeH 18 (fun _ _ _ _ _ h => h) (by kernel_rfl) hHeld rfl (by kernel_rfl) (by rfl) (v := ?_) ?_ ?_
        rotate_left
        ((intro wz hz; (try dsimp only at hz); go_simp) <;> with_reducible rfl)
        try simp only [Act.put, List.setIfInBounds_toArray, List.set_cons_zero, List.set_cons_succ]
        refine takeH 19 (fun _ _ _ _ _ h => h) (by kernel_rfl) hHeld rfl (by kernel_rfl) (by rfl) (v := ?_) ?_ ?_
        rotate_left
        ((intro wz hz; (try dsimp only at hz); go_simp) <;> with_reducible rfl)
        try simp only [Act.put, List.setIfInBounds_toArray, List.set_cons_zero, List.set_cons_succ]
        refine takeH 21 (fun _ _ _ _ _ h => h) (by kernel_rfl) hHeld rfl (by kernel_rfl) (by rfl) (v := ?_) ?_ ?_
        rotate_left
        ((intro wz hz; (try dsimp only at hz); go_simp) <;> with_reducible rfl)
        try simp only [Act.put, List.setIfInBounds_toArray, List.set_cons_zero, List.set_cons_succ]
        refine takeH 22 (fun _ _ _ _ _ h => h) (by kernel_rfl) hHeld rfl (by kernel_rfl) (by rfl) (v := ?_) ?_ ?_
        rotate_left
        ((intro wz hz; (try dsimp only at hz); go_simp) <;> with_reducible rfl)
        try simp only [Act.put, List.setIfInBounds_toArray, List.set_cons_zero, List.set_cons_succ]
        refine takeH 23 (fun _ _ _ _ _ h => h) (by kernel_rfl) hHeld rfl (by kernel_rfl) (by rfl) (v := .bool false) ?_ ?_
        · intro wz hz
          (try dsimp only at hz)
          go_simp
          by_cases e1 : cx = qx <;> by_cases e2 : cy = qy <;> simp [e1, e2] <;> exact (hc.out ⟨e1.symm, e2.symm⟩).elim
        try simp only [Act.put, List.setIfInBounds_toArray, List.set_cons_zero, List.set_cons_succ]
        refine stepH 20 (by kernel_rfl) rfl (by rfl) (fun K hK => ?_)
        go_simp
        refine (cO.out _ hHeld.2.2.2.2.2.2.2).mono ?_
        rintro e wc2 ⟨rfl, hbc2⟩
        have hrc2 := HR.next hHeld.2.2.2.2.2.2 hbc2
        refine hK.out _ _ ?_ (fun hHeld => ?_)
        · exact ⟨HR.cell hrc2 (b := b10) (cs := #[.int .u64 qx, .int .u64 qy]) (t := 37) (by simp) 0 rfl, HR.cell hrc2 (b := b10) (cs := #[.int .u64 qx, .int .u64 qy]) (t := 37) (by simp) 1 rfl, HR.cell hrc2 (b := b8) (cs := #[.int .u64 qx, .int .u64 qy]) (t := 37) (by simp) 0 rfl, HR.cell hrc2 (b := b8) (cs := #[.int .u64 qx, .int .u64 qy]) (t := 37) (by simp) 1 rfl, HR.cell hrc2 (b := b5) (cs := #[.int .u64 cx, .int .u64 cy]) (t := 37) (by simp) 0 rfl, HR.cell hrc2 (b := b5) (cs := #[.int .u64 cx, .int .u64 cy]) (t := 37) (by simp) 1 rfl, hrc2⟩
        clear hK K
        try simp only [Act.put, List.setIfInBounds_toArray, List.set_cons_zero, List.set_cons_succ]
        refine takeH 24 (fun _ _ _ _ _ h => h) (by kernel_rfl) hHeld rfl (by kernel_rfl) (by rfl) (v := ?_) ?_ ?_
        rotate_left
        ((intro wz hz; (try dsimp only at hz); go_simp) <;> with_reducible rfl)
        try simp only [Act.put, List.setIfInBounds_toArray, List.set_cons_zero, List.set_cons_succ]
        refine takeH 25 (fun _ _ _ _ _ h => h) (by kernel_rfl) hHeld rfl (by kernel_rfl) (by rfl) (v := ?_) ?_ ?_
        rotate_left
        ((intro wz hz; (try dsimp only at hz); go_simp) <;> with_reducible rfl)
        try simp only [Act.put, List.setIfInBounds_toArray, List.set_cons_zero, List.set_cons_succ]
        refine takeH 26 (fun _ _ _ _ _ h => h) (by kernel_rfl) hHeld rfl (by kernel_rfl) (by rfl) (v := ?_) ?_ ?_
        rotate_left
        ((intro wz hz; (try dsimp only at hz); go_simp) <;> with_reducible rfl)
        try simp only [Act.put, List.setIfInBounds_toArray, List.set_cons_zero, List.set_cons_succ]
        refine wpAnyH_done (by kernel_rfl) (NoPanic.normal ?_) _
        have HB := Lib.hid (hHeld.2.2.2.2.2.2)
        clear hHeld K3
        go_wp2_with fail
        go_ret
        exact ⟨rfl, HB.out.2⟩
  · have h5' : (len : Int) ≤ 5 := by omega
    have HV := HV0
    have hS := hS0
    clear hS0 HV0
    have hG' := Lib.hid hG
    replace HV := Lib.hid HV
    replace hS := Lib.hid hS
    clear hG
    cases hcm : comN x.toNat V len with
    | none =>
      have cC := Lib.hid (fun W (hw : Below w.heap.size w W) => pCommitN x x0 x1 ao len cap V HV.out (by omega) hcm W (hS.out.at hw) (hG'.out.below hw))
      have cL := fun W (hw : Below w.heap.size w W) => lCommit x x0 x1 ao len cap V HV.out (by omega) W (hS.out.at hw) (hG'.out.below hw)
      rw [hcm] at cL
      change ∀ W, Below w.heap.size w W → Calls Tryd.prog 38 #[.slice ao (len) cap, .int .u64 x] W fun e w' => e = .returned (.tuple #[edV 0 0, .bool false]) ∧ Below W.heap.size W w' at cL
      have cO := Lib.hid (fun W (hw : Below w.heap.size w W) => pOpensN cx cy x ao len cap x0 x1 V HV.out (by omega) hcm W (hS.out.at hw) (hG'.out.below hw))
      replace cL := Lib.hid cL
      clear hcm
      go_enter Tryd.func11, Tryd.ntmps11
      go_wp2_with fail
      have H0 := Lib.hid ((HR.refl w).new #[.int .u64 cx, .int .u64 cy] 37)
      generalize w.alloc (.cells #[.int .u64 cx, .int .u64 cy] 37) = w0 at H0 ⊢
      generalize w.heap.size = b5 at H0 ⊢
      refine (hU.out _ H0.out.2).mono ?_
      rintro e w1 ⟨rfl, hb1⟩
      have H1 := Lib.hid (H0.out.next hb1)
      clear hb1 H0
      have c_b5_0 := H1.out.cell (b := b5) (cs := #[.int .u64 cx, .int .u64 cy]) (t := 37) (by simp) 0 rfl
      have c_b5_1 := H1.out.cell (b := b5) (cs := #[.int .u64 cx, .int .u64 cy]) (t := 37) (by simp) 1 rfl
      go_wp2_with fail
      refine (cC.out _ H1.out.2).mono ?_
      rintro e v2 ⟨rfl, hv2⟩
      have K2 := Lib.hid ((H1.out.next hv2).new #[.int .u64 0, .int .u64 0] 37)
      clear c_b5_0 c_b5_1
      go_upto_region 5 with fail
      generalize v2.alloc (.cells #[.int .u64 0, .int .u64 0] 37) = u2 at K2 ⊢
      generalize v2.heap.size = b8 at K2 ⊢
      clear hv2 H1
      have c_b8_0 := K2.out.cell (b := b8) (cs := #[.int .u64 0, .int .u64 0]) (t := 37) (by simp) 0 rfl
      have c_b8_1 := K2.out.cell (b := b8) (cs := #[.int .u64 0, .int .u64 0]) (t := 37) (by simp) 1 rfl
      have c_b5_0 := K2.out.cell (b := b5) (cs := #[.int .u64 cx, .int .u64 cy]) (t := 37) (by simp) 0 rfl
      have c_b5_1 := K2.out.cell (b := b5) (cs := #[.int .u64 cx, .int .u64 cy]) (t := 37) (by simp) 1 rfl
      go_wp2_with fail
      go_wp2_with fail
      refine (cL.out _ K2.out.2).mono ?_
      rintro e v3 ⟨rfl, hv3⟩
      have K3 := Lib.hid ((K2.out.next hv3).new #[.int .u64 0, .int .u64 0] 37)
      clear c_b8_0 c_b8_1 c_b5_0 c_b5_1
      go_upto_region 8 with fail
      generalize v3.alloc (.cells #[.int .u64 0, .int .u64 0] 37) = u3 at K3 ⊢
      generalize v3.heap.size = b10 at K3 ⊢
      clear hv3 K2
      have c_b10_0 := K3.out.cell (b := b10) (cs := #[.int .u64 0, .int .u64 0]) (t := 37) (by simp) 0 rfl
      have c_b10_1 := K3.out.cell (b := b10) (cs := #[.int .u64 0, .int .u64 0]) (t := 37) (by simp) 1 rfl
      have c_b8_0 := K3.out.cell (b := b8) (cs := #[.int .u64 0, .int .u64 0]) (t := 37) (by simp) 0 rfl
      have c_b8_1 := K3.out.cell (b := b8) (cs := #[.int .u64 0, .int .u64 0]) (t := 37) (by simp) 1 rfl
      have c_b5_0 := K3.out.cell (b := b5) (cs := #[.int .u64 cx, .int .u64 cy]) (t := 37) (by simp) 0 rfl
      have c_b5_1 := K3.out.cell (b := b5) (cs := #[.int .u64 cx, .int .u64 cy]) (t := 37) (by simp) 1 rfl
      go_wp2_with fail
      refine (cO.out _ K3.out.2).mono ?_
      rintro e v4 ⟨rfl, hv4⟩
      have K4 := Lib.hid (K3.out.next hv4)
      clear c_b10_0 c_b10_1 c_b8_0 c_b8_1 c_b5_0 c_b5_1
      clear hv4 K3
      have c_b10_0 := K4.out.cell (b := b10) (cs := #[.int .u64 0, .int .u64 0]) (t := 37) (by simp) 0 rfl
      have c_b10_1 := K4.out.cell (b := b10) (cs := #[.int .u64 0, .int .u64 0]) (t := 37) (by simp) 1 rfl
      have c_b8_0 := K4.out.cell (b := b8) (cs := #[.int .u64 0, .int .u64 0]) (t := 37) (by simp) 0 rfl
      have c_b8_1 := K4.out.cell (b := b8) (cs := #[.int .u64 0, .int .u64 0]) (t := 37) (by simp) 1 rfl
      have c_b5_0 := K4.out.cell (b := b5) (cs := #[.int .u64 cx, .int .u64 cy]) (t := 37) (by simp) 0 rfl
      have c_b5_1 := K4.out.cell (b := b5) (cs := #[.int .u64 cx, .int .u64 cy]) (t := 37) (by simp) 1 rfl
      go_wp2_with fail
      go_ret
      exact ⟨rfl, K4.out.2⟩
    | some q =>
      obtain ⟨qx, qy, -, -, -, -, hvq, -⟩ := coordsN q
      have cC := fun W (hw : Below w.heap.size w W) => pCommitY x x0 x1 ao len cap V HV.out (by omega) q hcm W (hS.out.at hw) (hG'.out.below hw)
      have cL := fun W (hw : Below w.heap.size w W) => lCommit x x0 x1 ao len cap V HV.out (by omega) W (hS.out.at hw) (hG'.out.below hw)
      rw [hcm] at cL
      change ∀ W, Below w.heap.size w W → Calls Tryd.prog 38 #[.slice ao (len) cap, .int .u64 x] W fun e w' => e = .returned (.tuple #[ptV q, .bool true]) ∧ Below W.heap.size W w' at cL
      rw [hvq] at cC cL
      have cOq := Lib.hid (fun W (hw : Below w.heap.size w W) => pOpensY qx qy x ao len cap x0 x1 V HV.out (by omega) q hcm hvq W (hS.out.at hw) (hG'.out.below hw))
      replace cC := Lib.hid cC
      replace cL := Lib.hid cL
      by_cases hc : qx = cx ∧ qy = cy
      · obtain ⟨rfl, rfl⟩ := hc
        clear hcm hvq
        go_enter Tryd.func11, Tryd.ntmps11
        go_wp2_with fail
        have H0 := Lib.hid ((HR.refl w).new #[.int .u64 qx, .int .u64 qy] 37)
        generalize w.alloc (.cells #[.int .u64 qx, .int .u64 qy] 37) = w0 at H0 ⊢
        generalize w.heap.size = b5 at H0 ⊢
        refine (hU.out _ H0.out.2).mono ?_
        rintro e w1 ⟨rfl, hb1⟩
        have H1 := Lib.hid (H0.out.next hb1)
        clear hb1 H0
        have c_b5_0 := H1.out.cell (b := b5) (cs := #[.int .u64 qx, .int .u64 qy]) (t := 37) (by simp) 0 rfl
        have c_b5_1 := H1.out.cell (b := b5) (cs := #[.int .u64 qx, .int .u64 qy]) (t := 37) (by simp) 1 rfl
        go_wp2_with fail
        refine (cC.out _ H1.out.2).mono ?_
        rintro e v2 ⟨rfl, hv2⟩
        have K2 := Lib.hid ((H1.out.next hv2).new #[.int .u64 qx, .int .u64 qy] 37)
        clear c_b5_0 c_b5_1
        go_upto_region 5 with fail
        generalize v2.alloc (.cells #[.int .u64 qx, .int .u64 qy] 37) = u2 at K2 ⊢
        generalize v2.heap.size = b8 at K2 ⊢
        clear hv2 H1
        have c_b8_0 := K2.out.cell (b := b8) (cs := #[.int .u64 qx, .int .u64 qy]) (t := 37) (by simp) 0 rfl
        have c_b8_1 := K2.out.cell (b := b8) (cs := #[.int .u64 qx, .int .u64 qy]) (t := 37) (by simp) 1 rfl
        have c_b5_0 := K2.out.cell (b := b5) (cs := #[.int .u64 qx, .int .u64 qy]) (t := 37) (by simp) 0 rfl
        have c_b5_1 := K2.out.cell (b := b5) (cs := #[.int .u64 qx, .int .u64 qy]) (t := 37) (by simp) 1 rfl
        go_wp2_with fail
        go_wp2_with fail
        refine (cL.out _ K2.out.2).mono ?_
        rintro e v3 ⟨rfl, hv3⟩
        have K3 := Lib.hid ((K2.out.next hv3).new #[.int .u64 qx, .int .u64 qy] 37)
        clear c_b8_0 c_b8_1 c_b5_0 c_b5_1
        go_upto_region 8 with fail
        generalize v3.alloc (.cells #[.int .u64 qx, .int .u64 qy] 37) = u3 at K3 ⊢
        generalize v3.heap.size = b10 at K3 ⊢
        clear hv3 K2
        have c_b10_0 := K3.out.cell (b := b10) (cs := #[.int .u64 qx, .int .u64 qy]) (t := 37) (by simp) 0 rfl
        have c_b10_1 := K3.out.cell (b := b10) (cs := #[.int .u64 qx, .int .u64 qy]) (t := 37) (by simp) 1 rfl
        have c_b8_0 := K3.out.cell (b := b8) (cs := #[.int .u64 qx, .int .u64 qy]) (t := 37) (by simp) 0 rfl
        have c_b8_1 := K3.out.cell (b := b8) (cs := #[.int .u64 qx, .int .u64 qy]) (t := 37) (by simp) 1 rfl
        have c_b5_0 := K3.out.cell (b := b5) (cs := #[.int .u64 qx, .int .u64 qy]) (t := 37) (by simp) 0 rfl
        have c_b5_1 := K3.out.cell (b := b5) (cs := #[.int .u64 qx, .int .u64 qy]) (t := 37) (by simp) 1 rfl
        go_wp2_with fail
        clear c_b10_0 c_b10_1 c_b8_0 c_b8_1 c_b5_0 c_b5_1
        go_wp2_with fail
        refine wp_region_noPanic ?_
        refine wp_region_held_drew (S := fun wq => wq.cell? ⟨b10, 0, none⟩ = some (.int .u64 qx) ∧ wq.cell? ⟨b10, 1, none⟩ = some (.int .u64 qy) ∧ wq.cell? ⟨b8, 0, none⟩ = some (.int .u64 qx) ∧ wq.cell? ⟨b8, 1, none⟩ = some (.int .u64 qy) ∧ wq.cell? ⟨b5, 0, none⟩ = some (.int .u64 qx) ∧ wq.cell? ⟨b5, 1, none⟩ = some (.int .u64 qy) ∧ HR w wq [(b10, #[.int .u64 qx, .int .u64 qy], 37), (b8, #[.int .u64 qx, .int .u64 qy], 37), (b5, #[.int .u64 qx, .int .u64 qy], 37)]) (by kernel_rfl) ?_ (fun hHeld => ?_)
        · have hq0 := HR.drew K3.out
          exact ⟨HR.cell hq0 (b := b10) (cs := #[.int .u64 qx, .int .u64 qy]) (t := 37) (by simp) 0 rfl, HR.cell hq0 (b := b10) (cs := #[.int .u64 qx, .int .u64 qy]) (t := 37) (by simp) 1 rfl, HR.cell hq0 (b := b8) (cs := #[.int .u64 qx, .int .u64 qy]) (t := 37) (by simp) 0 rfl, HR.cell hq0 (b := b8) (cs := #[.int .u64 qx, .int .u64 qy]) (t := 37) (by simp) 1 rfl, HR.cell hq0 (b := b5) (cs := #[.int .u64 qx, .int .u64 qy]) (t := 37) (by simp) 0 rfl, HR.cell hq0 (b := b5) (cs := #[.int .u64 qx, .int .u64 qy]) (t := 37) (by simp) 1 rfl, hq0⟩
        refine takeH 0 (fun _ _ _ _ _ h => h) (by kernel_rfl) hHeld rfl (by kernel_rfl) (by rfl) (v := ?_) ?_ ?_
        rotate_left
        ((intro wz hz; (try dsimp only at hz); go_simp) <;> with_reducible rfl)
        try simp only [Act.put, List.setIfInBounds_toArray, List.set_cons_zero, List.set_cons_succ]
        refine takeH 1 (fun _ _ _ _ _ h => h) (by kernel_rfl) hHeld rfl (by kernel_rfl) (by rfl) (v := ?_) ?_ ?_
        rotate_left
        ((intro wz hz; (try dsimp only at hz); go_simp) <;> with_reducible rfl)
        try simp only [Act.put, List.setIfInBounds_toArray, List.set_cons_zero, List.set_cons_succ]
        refine takeH 2 (fun _ _ _ _ _ h => h) (by kernel_rfl) hHeld rfl (by kernel_rfl) (by rfl) (v := ?_) ?_ ?_
        rotate_left
        ((intro wz hz; (try dsimp only at hz); go_simp) <;> with_reducible rfl)
        try simp only [Act.put, List.setIfInBounds_toArray, List.set_cons_zero, List.set_cons_succ]
        refine takeH 3 (fun _ _ _ _ _ h => h) (by kernel_rfl) hHeld rfl (by kernel_rfl) (by rfl) (v := ?_) ?_ ?_
        rotate_left
        ((intro wz hz; (try dsimp only at hz); go_simp) <;> with_reducible rfl)
        try simp only [Act.put, List.setIfInBounds_toArray, List.set_cons_zero, List.set_cons_succ]
        refine takeH 4 (fun _ _ _ _ _ h => h) (by kernel_rfl) hHeld rfl (by kernel_rfl) (by rfl) (v := ?_) ?_ ?_
        rotate_left
        ((intro wz hz; (try dsimp only at hz); go_simp) <;> with_reducible rfl)
        try simp only [Act.put, List.setIfInBounds_toArray, List.set_cons_zero, List.set_cons_succ]
        refine takeH 5 (fun _ _ _ _ _ h => h) (by kernel_rfl) hHeld rfl (by kernel_rfl) (by rfl) (v := ?_) ?_ ?_
        rotate_left
        ((intro wz hz; (try dsimp only at hz); go_simp) <;> with_reducible rfl)
        try simp only [Act.put, List.setIfInBounds_toArray, List.set_cons_zero, List.set_cons_succ]
        refine takeH 6 (fun _ _ _ _ _ h => h) (by kernel_rfl) hHeld rfl (by kernel_rfl) (by rfl) (v := ?_) ?_ ?_
        rotate_left
        ((intro wz hz; (try dsimp only at hz); go_simp) <;> with_reducible rfl)
        try simp only [Act.put, List.setIfInBounds_toArray, List.set_cons_zero, List.set_cons_succ]
        refine takeH 7 (fun _ _ _ _ _ h => h) (by kernel_rfl) hHeld rfl (by kernel_rfl) (by rfl) (v := ?_) ?_ ?_
        rotate_left
        ((intro wz hz; (try dsimp only at hz); go_simp) <;> with_reducible rfl)
        try simp only [Act.put, List.setIfInBounds_toArray, List.set_cons_zero, List.set_cons_succ]
        refine takeH 8 (fun _ _ _ _ _ h => h) (by kernel_rfl) hHeld rfl (by kernel_rfl) (by rfl) (v := ?_) ?_ ?_
        rotate_left
        ((intro wz hz; (try dsimp only at hz); go_simp) <;> with_reducible rfl)
        try simp only [Act.put, List.setIfInBounds_toArray, List.set_cons_zero, List.set_cons_succ]
        refine takeH 9 (fun _ _ _ _ _ h => h) (by kernel_rfl) hHeld rfl (by kernel_rfl) (by rfl) (v := ?_) ?_ ?_
        rotate_left
        ((intro wz hz; (try dsimp only at hz); go_simp) <;> with_reducible rfl)
        try simp only [Act.put, List.setIfInBounds_toArray, List.set_cons_zero, List.set_cons_succ]
        refine takeH 10 (fun _ _ _ _ _ h => h) (by kernel_rfl) hHeld rfl (by kernel_rfl) (by rfl) (v := ?_) ?_ ?_
        rotate_left
        ((intro wz hz; (try dsimp only at hz); go_simp) <;> with_reducible rfl)
        try simp only [Act.put, List.setIfInBounds_toArray, List.set_cons_zero, List.set_cons_succ]
        refine takeH 11 (fun _ _ _ _ _ h => h) (by kernel_rfl) hHeld rfl (by kernel_rfl) (by rfl) (v := ?_) ?_ ?_
        rotate_left
        ((intro wz hz; (try dsimp only at hz); go_simp) <;> with_reducible rfl)
        try simp only [Act.put, List.setIfInBounds_toArray, List.set_cons_zero, List.set_cons_succ]
        refine takeH 12 (fun _ _ _ _ _ h => h) (by kernel_rfl) hHeld rfl (by kernel_rfl) (by rfl) (v := ?_) ?_ ?_
        rotate_left
        ((intro wz hz; (try dsimp only at hz); go_simp) <;> with_reducible rfl)
        try simp only [Act.put, List.setIfInBounds_toArray, List.set_cons_zero, List.set_cons_succ]
        refine takeH 13 (fun _ _ _ _ _ h => h) (by kernel_rfl) hHeld rfl (by kernel_rfl) (by rfl) (v := ?_) ?_ ?_
        rotate_left
        ((intro wz hz; (try dsimp only at hz); go_simp) <;> with_reducible rfl)
        try simp only [Act.put, List.setIfInBounds_toArray, List.set_cons_zero, List.set_cons_succ]
        refine stepH 14 (by kernel_rfl) rfl (by rfl) (fun K hK => ?_)
        go_simp
        refine (cOq.out _ hHeld.2.2.2.2.2.2.2).mono ?_
        rintro e wc1 ⟨rfl, hbc1⟩
        have hrc1 := HR.next hHeld.2.2.2.2.2.2 hbc1
        refine hK.out _ _ ?_ (fun hHeld => ?_)
        · exact ⟨HR.cell hrc1 (b := b10) (cs := #[.int .u64 qx, .int .u64 qy]) (t := 37) (by simp) 0 rfl, HR.cell hrc1 (b := b10) (cs := #[.int .u64 qx, .int .u64 qy]) (t := 37) (by simp) 1 rfl, HR.cell hrc1 (b := b8) (cs := #[.int .u64 qx, .int .u64 qy]) (t := 37) (by simp) 0 rfl, HR.cell hrc1 (b := b8) (cs := #[.int .u64 qx, .int .u64 qy]) (t := 37) (by simp) 1 rfl, HR.cell hrc1 (b := b5) (cs := #[.int .u64 qx, .int .u64 qy]) (t := 37) (by simp) 0 rfl, HR.cell hrc1 (b := b5) (cs := #[.int .u64 qx, .int .u64 qy]) (t := 37) (by simp) 1 rfl, hrc1⟩
        clear hK K
        try simp only [Act.put, List.setIfInBounds_toArray, List.set_cons_zero, List.set_cons_succ]
        refine takeH 15 (fun _ _ _ _ _ h => h) (by kernel_rfl) hHeld rfl (by kernel_rfl) (by rfl) (v := ?_) ?_ ?_
        rotate_left
        ((intro wz hz; (try dsimp only at hz); go_simp) <;> with_reducible rfl)
        try simp only [Act.put, List.setIfInBounds_toArray, List.set_cons_zero, List.set_cons_succ]
        refine takeH 16 (fun _ _ _ _ _ h => h) (by kernel_rfl) hHeld rfl (by kernel_rfl) (by rfl) (v := ?_) ?_ ?_
        rotate_left
        ((intro wz hz; (try dsimp only at hz); go_simp) <;> with_reducible rfl)
        try simp only [Act.put, List.setIfInBounds_toArray, List.set_cons_zero, List.set_cons_succ]
        refine takeH 17 (fun _ _ _ _ _ h => h) (by kernel_rfl) hHeld rfl (by kernel_rfl) (by rfl) (v := ?_) ?_ ?_
        rotate_left
        ((intro wz hz; (try dsimp only at hz); go_simp) <;> with_reducible rfl)
        try simp only [Act.put, List.setIfInBounds_toArray, List.set_cons_zero, List.set_cons_succ]
        refine takeH 18 (fun _ _ _ _ _ h => h) (by kernel_rfl) hHeld rfl (by kernel_rfl) (by rfl) (v := ?_) ?_ ?_
        rotate_left
        ((intro wz hz; (try dsimp only at hz); go_simp) <;> with_reducible rfl)
        try simp only [Act.put, List.setIfInBounds_toArray, List.set_cons_zero, List.set_cons_succ]
        refine takeH 19 (fun _ _ _ _ _ h => h) (by kernel_rfl) hHeld rfl (by kernel_rfl) (by rfl) (v := ?_) ?_ ?_
        rotate_left
        ((intro wz hz; (try dsimp only at hz); go_simp) <;> with_reducible rfl)
        try simp only [Act.put, List.setIfInBounds_toArray, List.set_cons_zero, List.set_cons_succ]
        refine takeH 21 (fun _ _ _ _ _ h => h) (by kernel_rfl) hHeld rfl (by kernel_rfl) (by rfl) (v := ?_) ?_ ?_
        rotate_left
        ((intro wz hz; (try dsimp only at hz); go_simp) <;> with_reducible rfl)
        try simp only [Act.put, List.setIfInBounds_toArray, List.set_cons_zero, List.set_cons_succ]
        refine takeH 22 (fun _ _ _ _ _ h => h) (by kernel_rfl) hHeld rfl (by kernel_rfl) (by rfl) (v := ?_) ?_ ?_
        rotate_left
        ((intro wz hz; (try dsimp only at hz); go_simp) <;> with_reducible rfl)
        try simp only [Act.put, List.setIfInBounds_toArray, List.set_cons_zero, List.set_cons_succ]
        refine takeH 23 (fun _ _ _ _ _ h => h) (by kernel_rfl) hHeld rfl (by kernel_rfl) (by rfl) (v := ?_) ?_ ?_
        rotate_left
        ((intro wz hz; (try dsimp only at hz); go_simp) <;> with_reducible rfl)
        try simp only [Act.put, List.setIfInBounds_toArray, List.set_cons_zero, List.set_cons_succ]
        refine stepH 20 (by kernel_rfl) rfl (by rfl) (fun K hK => ?_)
        go_simp
        refine (cOq.out _ hHeld.2.2.2.2.2.2.2).mono ?_
        rintro e wc2 ⟨rfl, hbc2⟩
        have hrc2 := HR.next hHeld.2.2.2.2.2.2 hbc2
        refine hK.out _ _ ?_ (fun hHeld => ?_)
        · exact ⟨HR.cell hrc2 (b := b10) (cs := #[.int .u64 qx, .int .u64 qy]) (t := 37) (by simp) 0 rfl, HR.cell hrc2 (b := b10) (cs := #[.int .u64 qx, .int .u64 qy]) (t := 37) (by simp) 1 rfl, HR.cell hrc2 (b := b8) (cs := #[.int .u64 qx, .int .u64 qy]) (t := 37) (by simp) 0 rfl, HR.cell hrc2 (b := b8) (cs := #[.int .u64 qx, .int .u64 qy]) (t := 37) (by simp) 1 rfl, HR.cell hrc2 (b := b5) (cs := #[.int .u64 qx, .int .u64 qy]) (t := 37) (by simp) 0 rfl, HR.cell hrc2 (b := b5) (cs := #[.int .u64 qx, .int .u64 qy]) (t := 37) (by simp) 1 rfl, hrc2⟩
        clear hK K
        try simp only [Act.put, List.setIfInBounds_toArray, List.set_cons_zero, List.set_cons_succ]
        refine takeH 24 (fun _ _ _ _ _ h => h) (by kernel_rfl) hHeld rfl (by kernel_rfl) (by rfl) (v := ?_) ?_ ?_
        rotate_left
        ((intro wz hz; (try dsimp only at hz); go_simp) <;> with_reducible rfl)
        try simp only [Act.put, List.setIfInBounds_toArray, List.set_cons_zero, List.set_cons_succ]
        refine takeH 25 (fun _ _ _ _ _ h => h) (by kernel_rfl) hHeld rfl (by kernel_rfl) (by rfl) (v := ?_) ?_ ?_
        rotate_left
        ((intro wz hz; (try dsimp only at hz); go_simp) <;> with_reducible rfl)
        try simp only [Act.put, List.setIfInBounds_toArray, List.set_cons_zero, List.set_cons_succ]
        refine takeH 26 (fun _ _ _ _ _ h => h) (by kernel_rfl) hHeld rfl (by kernel_rfl) (by rfl) (v := ?_) ?_ ?_
        rotate_left
        ((intro wz hz; (try dsimp only at hz); go_simp) <;> with_reducible rfl)
        try simp only [Act.put, List.setIfInBounds_toArray, List.set_cons_zero, List.set_cons_succ]
        refine wpAnyH_done (by kernel_rfl) (NoPanic.normal ?_) _
        have HB := Lib.hid (hHeld.2.2.2.2.2.2)
        clear hHeld K3
        go_wp2_with fail
        go_ret
        exact ⟨rfl, HB.out.2⟩
      · have cO := Lib.hid (fun W (hw : Below w.heap.size w W) => pOpensX cx cy x ao len cap x0 x1 V HV.out (by omega) q hcm qx qy hvq hc W (hS.out.at hw) (hG'.out.below hw))
        clear hcm hvq
        replace hc := Lib.hid hc
        go_enter Tryd.func11, Tryd.ntmps11
        go_wp2_with fail
        have H0 := Lib.hid ((HR.refl w).new #[.int .u64 cx, .int .u64 cy] 37)
        generalize w.alloc (.cells #[.int .u64 cx, .int .u64 cy] 37) = w0 at H0 ⊢
        generalize w.heap.size = b5 at H0 ⊢
        refine (hU.out _ H0.out.2).mono ?_
        rintro e w1 ⟨rfl, hb1⟩
        have H1 := Lib.hid (H0.out.next hb1)
        clear hb1 H0
        have c_b5_0 := H1.out.cell (b := b5) (cs := #[.int .u64 cx, .int .u64 cy]) (t := 37) (by simp) 0 rfl
        have c_b5_1 := H1.out.cell (b := b5) (cs := #[.int .u64 cx, .int .u64 cy]) (t := 37) (by simp) 1 rfl
        go_wp2_with fail
        refine (cC.out _ H1.out.2).mono ?_
        rintro e v2 ⟨rfl, hv2⟩
        have K2 := Lib.hid ((H1.out.next hv2).new #[.int .u64 qx, .int .u64 qy] 37)
        clear c_b5_0 c_b5_1
        go_upto_region 5 with fail
        generalize v2.alloc (.cells #[.int .u64 qx, .int .u64 qy] 37) = u2 at K2 ⊢
        generalize v2.heap.size = b8 at K2 ⊢
        clear hv2 H1
        have c_b8_0 := K2.out.cell (b := b8) (cs := #[.int .u64 qx, .int .u64 qy]) (t := 37) (by simp) 0 rfl
        have c_b8_1 := K2.out.cell (b := b8) (cs := #[.int .u64 qx, .int .u64 qy]) (t := 37) (by simp) 1 rfl
        have c_b5_0 := K2.out.cell (b := b5) (cs := #[.int .u64 cx, .int .u64 cy]) (t := 37) (by simp) 0 rfl
        have c_b5_1 := K2.out.cell (b := b5) (cs := #[.int .u64 cx, .int .u64 cy]) (t := 37) (by simp) 1 rfl
        go_wp2_with fail
        go_wp2_with fail
        refine (cL.out _ K2.out.2).mono ?_
        rintro e v3 ⟨rfl, hv3⟩
        have K3 := Lib.hid ((K2.out.next hv3).new #[.int .u64 qx, .int .u64 qy] 37)
        clear c_b8_0 c_b8_1 c_b5_0 c_b5_1
        go_upto_region 8 with fail
        generalize v3.alloc (.cells #[.int .u64 qx, .int .u64 qy] 37) = u3 at K3 ⊢
        generalize v3.heap.size = b10 at K3 ⊢
        clear hv3 K2
        have c_b10_0 := K3.out.cell (b := b10) (cs := #[.int .u64 qx, .int .u64 qy]) (t := 37) (by simp) 0 rfl
        have c_b10_1 := K3.out.cell (b := b10) (cs := #[.int .u64 qx, .int .u64 qy]) (t := 37) (by simp) 1 rfl
        have c_b8_0 := K3.out.cell (b := b8) (cs := #[.int .u64 qx, .int .u64 qy]) (t := 37) (by simp) 0 rfl
        have c_b8_1 := K3.out.cell (b := b8) (cs := #[.int .u64 qx, .int .u64 qy]) (t := 37) (by simp) 1 rfl
        have c_b5_0 := K3.out.cell (b := b5) (cs := #[.int .u64 cx, .int .u64 cy]) (t := 37) (by simp) 0 rfl
        have c_b5_1 := K3.out.cell (b := b5) (cs := #[.int .u64 cx, .int .u64 cy]) (t := 37) (by simp) 1 rfl
        go_wp2_with fail
        clear c_b10_0 c_b10_1 c_b8_0 c_b8_1 c_b5_0 c_b5_1
        go_wp2_with fail
        refine wp_region_noPanic ?_
        refine wp_region_held_drew (S := fun wq => wq.cell? ⟨b10, 0, none⟩ = some (.int .u64 qx) ∧ wq.cell? ⟨b10, 1, none⟩ = some (.int .u64 qy) ∧ wq.cell? ⟨b8, 0, none⟩ = some (.int .u64 qx) ∧ wq.cell? ⟨b8, 1, none⟩ = some (.int .u64 qy) ∧ wq.cell? ⟨b5, 0, none⟩ = some (.int .u64 cx) ∧ wq.cell? ⟨b5, 1, none⟩ = some (.int .u64 cy) ∧ HR w wq [(b10, #[.int .u64 qx, .int .u64 qy], 37), (b8, #[.int .u64 qx, .int .u64 qy], 37), (b5, #[.int .u64 cx, .int .u64 cy], 37)]) (by kernel_rfl) ?_ (fun hHeld => ?_)
        · have hq0 := HR.drew K3.out
          exact ⟨HR.cell hq0 (b := b10) (cs := #[.int .u64 qx, .int .u64 qy]) (t := 37) (by simp) 0 rfl, HR.cell hq0 (b := b10) (cs := #[.int .u64 qx, .int .u64 qy]) (t := 37) (by simp) 1 rfl, HR.cell hq0 (b := b8) (cs := #[.int .u64 qx, .int .u64 qy]) (t := 37) (by simp) 0 rfl, HR.cell hq0 (b := b8) (cs := #[.int .u64 qx, .int .u64 qy]) (t := 37) (by simp) 1 rfl, HR.cell hq0 (b := b5) (cs := #[.int .u64 cx, .int .u64 cy]) (t := 37) (by simp) 0 rfl, HR.cell hq0 (b := b5) (cs := #[.int .u64 cx, .int .u64 cy]) (t := 37) (by simp) 1 rfl, hq0⟩
        refine takeH 0 (fun _ _ _ _ _ h => h) (by kernel_rfl) hHeld rfl (by kernel_rfl) (by rfl) (v := ?_) ?_ ?_
        rotate_left
        ((intro wz hz; (try dsimp only at hz); go_simp) <;> with_reducible rfl)
        try simp only [Act.put, List.setIfInBounds_toArray, List.set_cons_zero, List.set_cons_succ]
        refine takeH 1 (fun _ _ _ _ _ h => h) (by kernel_rfl) hHeld rfl (by kernel_rfl) (by rfl) (v := ?_) ?_ ?_
        rotate_left
        ((intro wz hz; (try dsimp only at hz); go_simp) <;> with_reducible rfl)
        try simp only [Act.put, List.setIfInBounds_toArray, List.set_cons_zero, List.set_cons_succ]
        refine takeH 2 (fun _ _ _ _ _ h => h) (by kernel_rfl) hHeld rfl (by kernel_rfl) (by rfl) (v := ?_) ?_ ?_
        rotate_left
        ((intro wz hz; (try dsimp only at hz); go_simp) <;> with_reducible rfl)
        try simp only [Act.put, List.setIfInBounds_toArray, List.set_cons_zero, List.set_cons_succ]
        refine takeH 3 (fun _ _ _ _ _ h => h) (by kernel_rfl) hHeld rfl (by kernel_rfl) (by rfl) (v := ?_) ?_ ?_
        rotate_left
        ((intro wz hz; (try dsimp only at hz); go_simp) <;> with_reducible rfl)
        try simp only [Act.put, List.setIfInBounds_toArray, List.set_cons_zero, List.set_cons_succ]
        refine takeH 4 (fun _ _ _ _ _ h => h) (by kernel_rfl) hHeld rfl (by kernel_rfl) (by rfl) (v := ?_) ?_ ?_
        rotate_left
        ((intro wz hz; (try dsimp only at hz); go_simp) <;> with_reducible rfl)
        try simp only [Act.put, List.setIfInBounds_toArray, List.set_cons_zero, List.set_cons_succ]
        refine takeH 5 (fun _ _ _ _ _ h => h) (by kernel_rfl) hHeld rfl (by kernel_rfl) (by rfl) (v := ?_) ?_ ?_
        rotate_left
        ((intro wz hz; (try dsimp only at hz); go_simp) <;> with_reducible rfl)
        try simp only [Act.put, List.setIfInBounds_toArray, List.set_cons_zero, List.set_cons_succ]
        refine takeH 6 (fun _ _ _ _ _ h => h) (by kernel_rfl) hHeld rfl (by kernel_rfl) (by rfl) (v := ?_) ?_ ?_
        rotate_left
        ((intro wz hz; (try dsimp only at hz); go_simp) <;> with_reducible rfl)
        try simp only [Act.put, List.setIfInBounds_toArray, List.set_cons_zero, List.set_cons_succ]
        refine takeH 7 (fun _ _ _ _ _ h => h) (by kernel_rfl) hHeld rfl (by kernel_rfl) (by rfl) (v := ?_) ?_ ?_
        rotate_left
        ((intro wz hz; (try dsimp only at hz); go_simp) <;> with_reducible rfl)
        try simp only [Act.put, List.setIfInBounds_toArray, List.set_cons_zero, List.set_cons_succ]
        refine takeH 8 (fun _ _ _ _ _ h => h) (by kernel_rfl) hHeld rfl (by kernel_rfl) (by rfl) (v := ?_) ?_ ?_
        rotate_left
        ((intro wz hz; (try dsimp only at hz); go_simp) <;> with_reducible rfl)
        try simp only [Act.put, List.setIfInBounds_toArray, List.set_cons_zero, List.set_cons_succ]
        refine takeH 9 (fun _ _ _ _ _ h => h) (by kernel_rfl) hHeld rfl (by kernel_rfl) (by rfl) (v := ?_) ?_ ?_
        rotate_left
        ((intro wz hz; (try dsimp only at hz); go_simp) <;> with_reducible rfl)
        try simp only [Act.put, List.setIfInBounds_toArray, List.set_cons_zero, List.set_cons_succ]
        refine takeH 10 (fun _ _ _ _ _ h => h) (by kernel_rfl) hHeld rfl (by kernel_rfl) (by rfl) (v := ?_) ?_ ?_
        rotate_left
        ((intro wz hz; (try dsimp only at hz); go_simp) <;> with_reducible rfl)
        try simp only [Act.put, List.setIfInBounds_toArray, List.set_cons_zero, List.set_cons_succ]
        refine takeH 11 (fun _ _ _ _ _ h => h) (by kernel_rfl) hHeld rfl (by kernel_rfl) (by rfl) (v := ?_) ?_ ?_
        rotate_left
        ((intro wz hz; (try dsimp only at hz); go_simp) <;> with_reducible rfl)
        try simp only [Act.put, List.setIfInBounds_toArray, List.set_cons_zero, List.set_cons_succ]
        refine takeH 12 (fun _ _ _ _ _ h => h) (by kernel_rfl) hHeld rfl (by kernel_rfl) (by rfl) (v := ?_) ?_ ?_
        rotate_left
        ((intro wz hz; (try dsimp only at hz); go_simp) <;> with_reducible rfl)
        try simp only [Act.put, List.setIfInBounds_toArray, List.set_cons_zero, List.set_cons_succ]
        refine takeH 13 (fun _ _ _ _ _ h => h) (by kernel_rfl) hHeld rfl (by kernel_rfl) (by rfl) (v := ?_) ?_ ?_
        rotate_left
        ((intro wz hz; (try dsimp only at hz); go_simp) <;> with_reducible rfl)
        try simp only [Act.put, List.setIfInBounds_toArray, List.set_cons_zero, List.set_cons_succ]
        refine stepH 14 (by kernel_rfl) rfl (by rfl) (fun K hK => ?_)
        go_simp
        refine (cOq.out _ hHeld.2.2.2.2.2.2.2).mono ?_
        rintro e wc1 ⟨rfl, hbc1⟩
        have hrc1 := HR.next hHeld.2.2.2.2.2.2 hbc1
        refine hK.out _ _ ?_ (fun hHeld => ?_)
        · exact ⟨HR.cell hrc1 (b := b10) (cs := #[.int .u64 qx, .int .u64 qy]) (t := 37) (by simp) 0 rfl, HR.cell hrc1 (b := b10) (cs := #[.int .u64 qx, .int .u64 qy]) (t := 37) (by simp) 1 rfl, HR.cell hrc1 (b := b8) (cs := #[.int .u64 qx, .int .u64 qy]) (t := 37) (by simp) 0 rfl, HR.cell hrc1 (b := b8) (cs := #[.int .u64 qx, .int .u64 qy]) (t := 37) (by simp) 1 rfl, HR.cell hrc1 (b := b5) (cs := #[.int .u64 cx, .int .u64 cy]) (t := 37) (by simp) 0 rfl, HR.cell hrc1 (b := b5) (cs := #[.int .u64 cx, .int .u64 cy]) (t := 37) (by simp) 1 rfl, hrc1⟩
        clear hK K
        try simp only [Act.put, List.setIfInBounds_toArray, List.set_cons_zero, List.set_cons_succ]
        refine takeH 15 (fun _ _ _ _ _ h => h) (by kernel_rfl) hHeld rfl (by kernel_rfl) (by rfl) (v := ?_) ?_ ?_
        rotate_left
        ((intro wz hz; (try dsimp only at hz); go_simp) <;> with_reducible rfl)
        try simp only [Act.put, List.setIfInBounds_toArray, List.set_cons_zero, List.set_cons_succ]
        refine takeH 16 (fun _ _ _ _ _ h => h) (by kernel_rfl) hHeld rfl (by kernel_rfl) (by rfl) (v := ?_) ?_ ?_
        rotate_left
        ((intro wz hz; (try dsimp only at hz); go_simp) <;> with_reducible rfl)
        try simp only [Act.put, List.setIfInBounds_toArray, List.set_cons_zero, List.set_cons_succ]
        refine takeH 17 (fun _ _ _ _ _ h => h) (by kernel_rfl) hHeld rfl (by kernel_rfl) (by rfl) (v := ?_) ?_ ?_
        rotate_left
        ((intro wz hz; (try dsimp only at hz); go_simp) <;> with_reducible rfl)
        try simp only [Act.put, List.setIfInBounds_toArray, List.set_cons_zero, List.set_cons_succ]
        refine takeH 18 (fun _ _ _ _ _ h => h) (by kernel_rfl) hHeld rfl (by kernel_rfl) (by rfl) (v := ?_) ?_ ?_
        rotate_left
        ((intro wz hz; (try dsimp only at hz); go_simp) <;> with_reducible rfl)
        try simp only [Act.put, List.setIfInBounds_toArray, List.set_cons_zero, List.set_cons_succ]
        refine takeH 19 (fun _ _ _ _ _ h => h) (by kernel_rfl) hHeld rfl (by kernel_rfl) (by rfl) (v := ?_) ?_ ?_
        rotate_left
        ((intro wz hz; (try dsimp only at hz); go_simp) <;> with_reducible rfl)
        try simp only [Act.put, List.setIfInBounds_toArray, List.set_cons_zero, List.set_cons_succ]
        refine takeH 21 (fun _ _ _ _ _ h => h) (by kernel_rfl) hHeld rfl (by kernel_rfl) (by rfl) (v := ?_) ?_ ?_
        rotate_left
        ((intro wz hz; (try dsimp only at hz); go_simp) <;> with_reducible rfl)
        try simp only [Act.put, List.setIfInBounds_toArray, List.set_cons_zero, List.set_cons_succ]
        refine takeH 22 (fun _ _ _ _ _ h => h) (by kernel_rfl) hHeld rfl (by kernel_rfl) (by rfl) (v := ?_) ?_ ?_
        rotate_left
        ((intro wz hz; (try dsimp only at hz); go_simp) <;> with_reducible rfl)
        try simp only [Act.put, List.setIfInBounds_toArray, List.set_cons_zero, List.set_cons_succ]
        refine takeH 23 (fun _ _ _ _ _ h => h) (by kernel_rfl) hHeld rfl (by kernel_rfl) (by rfl) (v := .bool false) ?_ ?_
        · intro wz hz
          (try dsimp only at hz)
          go_simp
          by_cases e1 : cx = qx <;> by_cases e2 : cy = qy <;> simp [e1, e2] <;> exact (hc.out ⟨e1.symm, e2.symm⟩).elim
        try simp only [Act.put, List.setIfInBounds_toArray, List.set_cons_zero, List.set_cons_succ]
        refine stepH 20 (by kernel_rfl) rfl (by rfl) (fun K hK => ?_)
        go_simp
        refine (cO.out _ hHeld.2.2.2.2.2.2.2).mono ?_
        rintro e wc2 ⟨rfl, hbc2⟩
        have hrc2 := HR.next hHeld.2.2.2.2.2.2 hbc2
        refine hK.out _ _ ?_ (fun hHeld => ?_)
        · exact ⟨HR.cell hrc2 (b := b10) (cs := #[.int .u64 qx, .int .u64 qy]) (t := 37) (by simp) 0 rfl, HR.cell hrc2 (b := b10) (cs := #[.int .u64 qx, .int .u64 qy]) (t := 37) (by simp) 1 rfl, HR.cell hrc2 (b := b8) (cs := #[.int .u64 qx, .int .u64 qy]) (t := 37) (by simp) 0 rfl, HR.cell hrc2 (b := b8) (cs := #[.int .u64 qx, .int .u64 qy]) (t := 37) (by simp) 1 rfl, HR.cell hrc2 (b := b5) (cs := #[.int .u64 cx, .int .u64 cy]) (t := 37) (by simp) 0 rfl, HR.cell hrc2 (b := b5) (cs := #[.int .u64 cx, .int .u64 cy]) (t := 37) (by simp) 1 rfl, hrc2⟩
        clear hK K
        try simp only [Act.put, List.setIfInBounds_toArray, List.set_cons_zero, List.set_cons_succ]
        refine takeH 24 (fun _ _ _ _ _ h => h) (by kernel_rfl) hHeld rfl (by kernel_rfl) (by rfl) (v := ?_) ?_ ?_
        rotate_left
        ((intro wz hz; (try dsimp only at hz); go_simp) <;> with_reducible rfl)
        try simp only [Act.put, List.setIfInBounds_toArray, List.set_cons_zero, List.set_cons_succ]
        refine takeH 25 (fun _ _ _ _ _ h => h) (by kernel_rfl) hHeld rfl (by kernel_rfl) (by rfl) (v := ?_) ?_ ?_
        rotate_left
        ((intro wz hz; (try dsimp only at hz); go_simp) <;> with_reducible rfl)
        try simp only [Act.put, List.setIfInBounds_toArray, List.set_cons_zero, List.set_cons_succ]
        refine takeH 26 (fun _ _ _ _ _ h => h) (by kernel_rfl) hHeld rfl (by kernel_rfl) (by rfl) (v := ?_) ?_ ?_
        rotate_left
        ((intro wz hz; (try dsimp only at hz); go_simp) <;> with_reducible rfl)
        try simp only [Act.put, List.setIfInBounds_toArray, List.set_cons_zero, List.set_cons_succ]
        refine wpAnyH_done (by kernel_rfl) (NoPanic.normal ?_) _
        have HB := Lib.hid (hHeld.2.2.2.2.2.2)
        clear hHeld K3
        go_wp2_with fail
        go_ret
        exact ⟨rfl, HB.out.2⟩

end Go.Proofs.YtiffendfojhapaaDoor
